/- What the laws lean on: HosE, RegB, RegC, HosB, HosC, HosF, LefP, ShoA, ShoB, ShoC; what is used. Its conditions: none. -/
import Derived.Test.YtpafoodmpjlkhaaGreatDoorKI
set_option linter.unusedVariables false
set_option linter.unusedSimpArgs false
set_option linter.unusedSectionVars false
set_option maxRecDepth 100000
open Go.IntKind (i64)
open Go.Proofs.Tryz
namespace Go.Pk
open Go.RowKit (Below)
open Go.Proofs
def upD (k:Nat)(w:List Nat):DA:=⟨(k:Int),1,setRow k (w.length+1) ((w.length+2:Nat):Int) (C6 k w ((w.length+1:Nat):Int)++mx k ((w.length+2:Nat):Int)) k,(EY w).set (w.length+1) false++[true]⟩
def tB (ts:List Txt)(h:Hst)(itself:Bool):DA:=
 if h.kind≠1 then(if itself=true then chD (ts.length+1) (cD ts h) 0 else noD (ts.length+1))
 else if itself=true then chD (ts.length+1) (cD ts h) (((cD ts h).length+1:Nat):Int)else upD (ts.length+1) (cD ts h)
abbrev Mb:=FR ai ay bR
structure UpS (wB:World)(k10 lo:Nat)(d:DA)(a:Option Addr)(n c:Nat)(b:Option Addr)(m e:Nat)(W:World):Prop where
 mb:Mb W k10 a n c b m e d
 bel:bW wB W
 fa:∀g,bu a=some g->wB.heap.size <=g
 fb:∀g,bu b=some g->wB.heap.size <=g
 le:lo <=W.heap.size
set_option maxHeartbeats 1000000 in
theorem ui {h:Hst}(o:h.ok)(hn:h.name.length <=1000000){w:World}(he:Env w){p:Option Addr}{ts:List Txt}(hA:fv w p ts)(htl:ts.length <=511)(itself:Bool):
   Cf jP #[.pointer p,h.v,.bool itself] w (Ret (eE (kB ts h) (tB ts h itself) w)):=by
 apply sW
 intro k4 w4 hk4 hw4 k6 w6 hk6 hw6
 have hb4:=(hw4▸af w _:bW w w4)
 have hb6:=(hw6▸af w4 _:bW w4 w6)
 have A4:ak w4 k4 ah h.cells:=ak.new hk4 hw4
 have A6:ak w6 k6 ai [vI 0,vI 0,.slice none 0 0,.slice none 0 0]:=ak.new hk6 hw6
 have hB6:=ab hb4 hb6 hb4.size
 refine⟨_,aL.load0 (A4.below hb6) (Hst.len o),?_⟩
 refine av (mH o hn (he.step hB6) (hA.below hB6) (by omega)) ?_
 rintro v w17 ⟨hb17,hv⟩
 have hB:=ab hB6 hb17 hB6.size
 have hlt:=A6.lt
 have ho6:w.heap.size <=k6:=by have:=hb4.size;omega
 have hs17:=hb17.size
 cases hk:kB ts h with
 | false=>
   rw[if_neg (by rw[hk];simp)]at hv
   subst hv
   obtain⟨wx,s1,s2,g1⟩:=dU (A6.below hb17) rfl none 0 0 none 0 0 ⟨0,0,[],[]⟩
   exact⟨none,0,0,181,rfl,ae.yes rfl ⟨wx,s1,_,_,none,0,0,none,0,0,s2,eE.no (Below.put hB g1 ho6)⟩⟩
 | true=>
   rw[if_pos hk]at hv
   obtain⟨a,n,c,rfl,ho,hf⟩:=hv
   have hwl:=xK ts o hk
   have hlen:((ts.length:Int)+1)=((ts.length+1:Nat):Int):=by omega
   have hs17':Sl fu w17 iv a n c ((cD ts h).map fun(x:Nat)=>(x:Int)):=by rw[<- uj];exact ho.all
   have A4b:=(A4.below hb6).below hb17
   have A6b:=A6.below hb17
   refine⟨a,n,c,0,rfl,ae.no rfl ?_⟩
   have fin:∀{d:DA} {v:Value} {w21:World},d=tB ts h itself->sq w17 d v w21->∃(a1:Option Addr) (n1 c1:Nat) (b1:Option Addr) (m1 e1:Nat),v=.tuple #[daV a1 n1 c1 b1 m1 e1 d,vI 0]/\∃wx,(Instr.storeAt ai (.pointer (some ⟨k6,0,none⟩)) (daV a1 n1 c1 b1 m1 e1 d)).run prog w21=.ok () wx/\
       (aZ ai (.pointer (some ⟨k6,0,none⟩))).run prog wx=.ok (daV a1 n1 c1 b1 m1 e1 d) wx/\eE true (tB ts h itself) w (.tuple #[daV a1 n1 c1 b1 m1 e1 d,vI 0]) wx:=by
     rintro d v w21 rfl ⟨a1,n1,c1,b1,m1,e1,rfl,O,hb21⟩
     obtain⟨wx,s1,s2,g1⟩:=dU (A6b.below hb21) rfl a1 n1 c1 b1 m1 e1 (tB ts h itself)
     exact⟨a1,n1,c1,b1,m1,e1,rfl,wx,s1,s2,eE.yes ⟨a1,n1,c1,b1,m1,e1,rfl,(O.put g1 (by omega)).mono hB.size,Below.put (ab hB hb21 hB.size) g1 ho6⟩⟩
   refine⟨λw'=>w'=w17/\ ¬ (h.kind≠1/\itself=true),⟨λb w'=>w'=w17/\b=(decide (h.kind≠1)&&itself),⟨rfl,h.kind,A4b.load1 aI rfl rfl,?_⟩,λb=>aE.of ?_ _⟩,aE.of ?_ _⟩
   · refine ae.of (λh1=>⟨rfl,?_⟩) (λh1=>⟨rfl,?_⟩)
     · have:h.kind≠1:=by simpa using h1
       simp[this]
     · have:h.kind=1:=by simpa using h1
       simp[this]
   · rintro wj ⟨rfl,rfl⟩
     refine ae.of (λh1=>?_) (λh1=>⟨rfl,λhc=>?_⟩)
     · rw[Bool.and_eq_true,dTx]at h1
       refine av (cb p ts (by omega) wj (hA.below hB)) ?_
       rintro _ w31 ⟨rfl,hw31⟩
       rw[hw31];clear hw31 w31
       refine⟨_,rfl,?_⟩
       rw[hlen]
       refine av (vp hs17' (k:=ts.length+1) (by omega) (by omega) (kN ts h) (by omega)) ?_
       intro v w33 hD
       obtain⟨a1,n1,c1,b1,m1,e1,rfl,wx,s1,s2,hP⟩:=fin (by unfold tB;rw[if_pos h1.1,if_pos h1.2]) hD
       exact⟨_,_,a1,n1,c1,b1,m1,e1,_,rfl,wx,s1,_,_,a1,n1,c1,b1,m1,e1,s2,hP⟩
     · rw[hc.2,decide_eq_true hc.1]at h1;cases h1
   rintro wj ⟨hwj,hno⟩
   obtain rfl:w17=wj:=hwj.symm
   clear hwj
   refine⟨rfl,h.kind,A4b.load1 aI rfl rfl,ae.of (λh1=>?_) (λh1=>?_)⟩
   · have hk1:h.kind≠1:=by simpa using h1
     have hi: ¬ itself=true:=λhc=>hno ⟨hk1,hc⟩
     refine av (cb p ts (by omega) w17 (hA.below hB)) ?_
     rintro _ w40 ⟨rfl,hw40⟩
     rw[hw40];clear hw40 w40
     refine⟨_,rfl,?_⟩
     rw[hlen]
     refine av (qs (k:=ts.length+1) (by omega) (by omega)) ?_
     intro v w41 hD
     obtain⟨a1,n1,c1,b1,m1,e1,rfl,wx,s1,s2,hP⟩:=fin (by unfold tB;rw[if_pos hk1,if_neg hi]) hD
     exact⟨_,_,a1,n1,c1,b1,m1,e1,_,rfl,wx,s1,_,_,a1,n1,c1,b1,m1,e1,s2,hP⟩
   have hk1:h.kind=1:=by simpa using h1
   refine av (cb p ts (by omega) w17 (hA.below hB)) ?_
   rintro _ w46 ⟨rfl,hw46⟩
   rw[hw46];clear hw46 w46
   refine⟨_,rfl,?_⟩
   rw[hlen]
   refine av (qV hs17' (k:=ts.length+1) (by omega) (by omega) (kN ts h) (by omega)) ?_
   rintro _ w48 ⟨a1,n1,c1,b1,m1,e1,rfl,O,hb48⟩
   obtain⟨wn,hwn⟩:∃wn,wn=cD ts h:=⟨_,rfl⟩
   obtain⟨k,hkk⟩:∃k,k=ts.length+1:=⟨_,rfl⟩
   obtain⟨D,hD⟩:∃D,D=chD k wn ((wn.length+1:Nat):Int):=⟨_,rfl⟩
   rw[<- hwn,<- hkk,<- hD]at O
   rw[<- hwn,<- hkk,<- hD]
   rw[<- hwn]at hwl
   have hB48:=ab hB hb48 hB.size
   refine⟨_,_,a1,n1,c1,b1,m1,e1,_,rfl,?_⟩
   intro k10 w10 hk10 hw10
   have hb10:=(hw10▸af w48 _:bW w48 w10)
   have A10:ak w10 k10 ai [vI 0,vI 0,.slice none 0 0,.slice none 0 0]:=ak.new hk10 hw10
   obtain⟨wx,s3,v3,g3⟩:=cg.store0 (P:=prog) (cs:=daL a1 n1 c1 b1 m1 e1 D) rfl (iF _ _ _ _ _ _ _) A10 rfl
   have hbx:bW w48 wx:=Below.put hb10 g3 (by omega)
   have M0:Mb wx k10 a1 n1 c1 b1 m1 e1 D:=⟨v3,O.nx.below hbx,O.ac.below hbx,λg hg e=>by have:=O.nx.lt g hg;omega,λg hg e=>by have:=O.ac.lt g hg;omega,O.ne⟩
   have hBx:=ab hB48 hbx hB48.size
   have hs48:=hb48.size
   have hs10:=hb10.size
   have hsx:=hbx.size
   refine⟨wx,s3,?_⟩
   refine⟨λw'=>w'=wx/\itself=false,⟨λb w'=>w'=wx/\b=itself,ae.no rfl ⟨rfl,rfl⟩,λb=>aE.of ?_ _⟩,aE.of ?_ _⟩
   · rintro wj2 ⟨rfl,rfl⟩
     refine ae.of (λh2=>?_) (λh2=>⟨rfl,h2⟩)
     refine⟨_,_,a1,n1,c1,b1,m1,e1,cg.load0 (cs:=daL a1 n1 c1 b1 m1 e1 D) M0.var rfl,?_⟩
     have A6x:=(A6b.below hb48).below hbx
     obtain⟨w4x,s4,s5,g4⟩:=dU A6x rfl a1 n1 c1 b1 m1 e1 D
     have eD:D=tB ts h b:=by unfold tB;rw[if_neg (λhc=>hc hk1),if_pos h2,hD,<- hwn,<- hkk]
     refine⟨w4x,s4,_,_,a1,n1,c1,b1,m1,e1,s5,?_⟩
     rw[<- eD]
     exact eE.yes ⟨a1,n1,c1,b1,m1,e1,rfl,((O.below hbx).put g4 (by omega)).mono hB.size,Below.put hBx g4 ho6⟩
   rintro wj2 ⟨hwj,hi⟩
   obtain rfl:wx=wj2:=hwj.symm
   clear hwj
   have hm1:=O.ac.len
   have hn1:=O.nx.len
   have hacl:D.ac.length=wn.length+2:=by rw[hD];exact fK wn
   have hnxl:D.nx.length=(wn.length+2)*k:=by rw[hD];exact lP _ _ _
   have hkle:1 <=k/\k <=512:=by omega
   refine⟨rfl,b1,m1,e1,M0.var.load1 bf rfl rfl,rfl,b1,m1,e1,M0.var.load1 bf rfl rfl,?_⟩
   have hac:D.ac=List.replicate (wn.length+1) false++[true]:=by rw[hD];rfl
   have hsac:Sl lg wx iv b1 m1 e1 (List.replicate (wn.length+1) false++[true]):=by rw[<- hac];exact M0.ac.all
   refine av (Fl hsac) ?_
   rintro _ w63 ⟨rfl,hw63⟩
   rw[hw63];clear hw63 w63
   refine⟨_,rfl,?_⟩
   have hAx:=hA.below hBx
   have hm1':((m1:Nat):Int)=((wn.length+2:Nat):Int):=by omega
   rw[hm1']
   refine⟨λW=>∃a' n' c',UpS w17 k10 wx.heap.size ⟨D.k,D.st,D.nx++mx k ((wn.length+2:Nat):Int),D.ac⟩ a' n' c' b1 m1 e1 W,⟨rfl,a1,n1,c1,λu hu=>(M0.var.below hu).load1 bm rfl rfl,((ts.length:Int)+1),λu hu=>?_,λk67 hk67=>?_⟩,aE.of ?_ _⟩
   · refine(cb p ts (by omega) u (hAx.below hu)).mono ?_
     rintro e w' ⟨v,rfl,rfl,rfl⟩
     exact⟨rfl,Below.refl _ _⟩
   · refine⟨λaa ll cc W=>ll=k/\cc=k/\Sl fu W (λg=>wx.heap.size <=g) aa ll cc (mx k ((wn.length+2:Nat):Int)),?_,?_,?_⟩
     · rintro aa ll cc x y ⟨rfl,rfl,hs⟩ hb
       exact⟨rfl,rfl,hs.below hb⟩
     · intro u70 hu hcell
       have hsl:Sl fu u70 iv (some ⟨k67,0,none⟩) 1 1 [((wn.length+2:Nat):Int)]:=by
         refine⟨rfl,Nat.le_refl _,by decide,.inr ⟨k67,0,rfl,(Array.getElem?_eq_some_iff.1 hcell).1,trivial,[vI ((wn.length+2:Nat):Int)],gy.one eX,λj hj=>?_⟩⟩
         rw[eG hcell,Nat.zero_add];simp
       rw[hlen,<- hkk]
       refine(lB hsl hkle.1 (by omega)).mono ?_
       rintro _ w70 ⟨_,rfl,a',rfl,ho',hf',hb'⟩
       refine⟨a',k,k,rfl,⟨rfl,rfl,ho'.sl (λb _ hb=>hb.elim) λg hg=>?_⟩,hb'⟩
       have:=hf' g hg
       have:=hu.size
       omega
     rintro aa ll cc wq hq ⟨hll,hcc,hs⟩ hcell
     rw[hll,hcc]at hs
     rw[hll,hcc]
     have Mq:=M0.below hq
     obtain⟨w71,a3,n3,c3,r71,o71,g71,f71⟩:=co (ty:=aA) bm ij (by decide) Mq.nx (λ_ _ h=>h) (cm:=k) (hs.flat gv) (by rw[hnxl];simp[mx];have:(wn.length+2)*k <=129*512:=Nat.mul_le_mul (by omega) (by omega);omega)
     have v71:=Mq.var.grown g71 λex=>M0.na k10 ex.symm rfl
     have hqs:=hq.size
     have kl:=M0.var.lt
     have hne3:∀g,bu a3=some g->g≠k10:=λg hg ex=>by
       rcases f71 g hg with h1|h1
       · exact M0.na g h1 ex
       · omega
     have o71b:=Mq.ac.other g71 λg hg ex=>M0.ne g ex hg
     obtain⟨w5,s5,v5,g5⟩:=v71.store xu (i:=2) (v:=.slice a3 n3 c3) rfl (by simp) (by intro c hc;simp[Value.cells]at hc;subst hc;rfl)
     have v5:ak w5 k10 ai [vI D.k,vI D.st,.slice a3 n3 c3,.slice b1 m1 e1]:=v5
     have old3:∀g,bu a3=some g->w17.heap.size <=g:=λg hg=>by
       rcases f71 g hg with h1|h1
       · exact O.fa g h1
       · omega
     have hb17x:bW w17 wx:=ab hb48 hbx hb48.size
     have hb17q:bW w17 wq:=ab hb17x hq hb17x.size
     have hb5:bW w17 w5:=(hb17q.grown g71 hb17q.size λg hg=>O.fa g hg).grown g5 (Nat.le_trans hb17q.size g71.size) λx ex=>by cases ex;omega
     refine⟨w71,a3,n3,c3,r71,rfl,w5,s5,a3,n3,c3,⟨v5,o71.put (λg hg ex=>hne3 g hg ex) g5,o71b.put (λg hg ex=>M0.nb g hg ex) g5,hne3,M0.nb,λg hg ex=>?_⟩,hb5,old3,O.fb,Nat.le_trans hqs (Nat.le_trans g71.size g5.size)⟩
     rcases f71 g hg with h1|h1
     · exact M0.ne g h1 ex
     · have:=M0.ac.lt g ex;omega
   rintro w74 ⟨a2,n2,c2,U0⟩
   have hBU:∀{W:World} {d:DA} {a2:Option Addr} {n2 c2:Nat} {b2:Option Addr} {m2 e2:Nat},UpS w17 k10 wx.heap.size d a2 n2 c2 b2 m2 e2 W->bW w W:=λU=>ab hB U.bel hB.size
   refine av (cb p ts (by omega) w74 (hA.below (hBU U0))) ?_
   rintro _ w74' ⟨rfl,hw74⟩
   rw[hw74];clear hw74 w74'
   refine⟨_,rfl,?_⟩
   have hk10x:k10<wx.heap.size:=M0.var.lt
   obtain⟨nx0,hnx0⟩:∃nx0,nx0=D.nx++mx k ((wn.length+2:Nat):Int):=⟨_,rfl⟩
   rw[<- hnx0]at U0
   have hnx0l:nx0.length=(wn.length+3)*k:=by rw[hnx0,List.length_append,hnxl,mx,List.length_replicate,<- Nat.succ_mul]
   have hmul:(wn.length+3)*k=(wn.length+1)*k+k+k:=by rw[show wn.length+3=(wn.length+1)+1+1 from rfl,Nat.succ_mul,Nat.succ_mul]
   have hmul2:(wn.length+1)*k <=128*512:=Nat.mul_le_mul (by omega) (by omega)
   rw[hlen,<- hkk]
   refine⟨λm i W=>∃(j:Nat) (a2:Option Addr) (n2 c2:Nat),j <=k/\i=(j:Int)/\m=k-j/\UpS w17 k10 wx.heap.size ⟨D.k,D.st,setRow k (wn.length+1) ((wn.length+2:Nat):Int) nx0 j,D.ac⟩ a2 n2 c2 b1 m1 e1 W,⟨_,0,a2,n2,c2,by omega,rfl,rfl,U0⟩,?_⟩
   intro m i
   refine aE.of ?_ _
   rintro wl ⟨j,a4,n4,c4,hj,rfl,rfl,U⟩
   have hn4:=U.mb.nx.len
   have hn4':n4=(wn.length+3)*k:=by rw[hn4];show(setRow _ _ _ _ _).length=_;rw[lF];exact hnx0l
   refine ae.of (λh3=>?_) (λh3=>?_) <;> simp only[dTx,dFx]at h3
   · have hjk:j<k:=by omega
     have hw1:i64.wrap (((wn.length+1:Nat):Int)*((k:Nat):Int))=(((wn.length+1)*k:Nat):Int):=by
       rw[<- Int.natCast_mul];exact wrap_i64 (by omega) (by omega)
     have hw2:i64.wrap (i64.wrap (((wn.length+1:Nat):Int)*((k:Nat):Int))+(j:Int))=(((wn.length+1)*k+j:Nat):Int):=by
       rw[hw1,wrap_i64 (by omega) (by omega)];omega
     have hidx:(wn.length+1)*k+j<(setRow k (wn.length+1) ((wn.length+2:Nat):Int) nx0 j).length:=by rw[lF,hnx0l];omega
     refine⟨rfl,a4,n4,c4,λu hu=>(U.mb.var.below hu).load1 bm rfl rfl,((k:Nat):Int),λu hu=>?_,?_⟩
     · have h1:=cb p ts (by omega) u ((hA.below (hBU U)).below hu)
       rw[hlen,<- hkk]at h1
       refine h1.mono ?_
       rintro e w' ⟨v,rfl,rfl,rfl⟩
       exact⟨rfl,Below.refl _ _⟩
     rw[hw2]
     refine⟨⟨⟨by omega,by omega⟩,U.mb.nx.all.isSome hidx⟩,λwq hq=>?_⟩
     have Mq:=U.mb.below hq
     obtain⟨w6x,s6,o6,g6⟩:=Mq.nx.store (P:=prog) ij (i:=(((wn.length+1)*k+j:Nat):Int)) (k:=1) (λ_ _ h=>h) (by rw[Int.toNat_natCast];exact hidx) rfl (v:=vI ((wn.length+2:Nat):Int)) (x:=((wn.length+2:Nat):Int)) eX
     rw[Int.toNat_natCast]at o6
     refine⟨w6x,s6,k-(j+1),by omega,j+1,a4,n4,c4,by omega,by rw[wrap_i64 (by omega) (by omega)];omega,rfl,⟨⟨Mq.var.grown g6 (λex=>U.mb.na k10 ex.symm rfl),o6,Mq.ac.other g6 (λg hg ex=>U.mb.ne g ex hg),U.mb.na,U.mb.nb,U.mb.ne⟩,?_,U.fa,U.fb,?_⟩⟩
     · have h1:=ab U.bel hq U.bel.size
       exact h1.grown g6 h1.size λg hg=>U.fa g hg
     · exact Nat.le_trans U.le (Nat.le_trans hq.size g6.size)
   have hjk:j=k:=by omega
   subst hjk
   have kl:=U.mb.var.lt
   have hidx:(((wn.length+1:Nat):Int)).toNat<D.ac.length:=by rw[Int.toNat_natCast];omega
   refine⟨rfl,b1,m1,e1,U.mb.var.load1 bf rfl rfl,⟨⟨by omega,by omega⟩,U.mb.ac.all.isSome (i:=wn.length+1) (by show wn.length+1<D.ac.length;omega)⟩,?_⟩
   obtain⟨w7,s7,o7,g7⟩:=U.mb.ac.store (P:=prog) qL (i:=((wn.length+1:Nat):Int)) (k:=1) (λ_ _ h=>h) hidx rfl (v:=.bool false) (x:=false) ry
   rw[Int.toNat_natCast]at o7
   have v7:=U.mb.var.grown g7 (λex=>U.mb.nb k10 ex.symm rfl)
   have x7:=U.mb.nx.other g7 U.mb.ne
   have B7:bW w17 w7:=U.bel.grown g7 U.bel.size λg hg=>U.fb g hg
   have s7':wl.heap.size <=w7.heap.size:=g7.size
   have hac1:(D.ac.set (wn.length+1) false).length=wn.length+2:=by rw[List.length_set];exact hacl
   refine⟨w7,s7,rfl,b1,m1,e1,v7.load1 bf rfl rfl,?_⟩
   intro k95 w95 hk95 hw95
   have hb95:=(hw95▸af w7 _:bW w7 w95)
   have hsrc:Src lg w95 NoB (some ⟨k95,0,none⟩) 1 [true]:=Src.new1F vE hk95 hw95 ry
   obtain⟨w96,b3,m3,e3,r96,o96,g96,f96⟩:=co (ty:=aQ) bf qL (by decide) (o7.below hb95) (λ_ _ h=>h) (cm:=1) hsrc (by rw[hac1];simp;omega)
   have v96:=(v7.below hb95).grown g96 λex=>U.mb.nb k10 ex.symm rfl
   have x96:=(x7.below hb95).other g96 U.mb.ne
   have s95:=hb95.size
   have hne3:∀g,bu b3=some g->g≠k10:=λg hg ex=>by
     rcases f96 g hg with h1|h1
     · exact U.mb.nb g h1 ex
     · omega
   have fb3:∀g,bu b3=some g->w17.heap.size <=g:=λg hg=>by
     rcases f96 g hg with h1|h1
     · exact U.fb g h1
     · have:=B7.size;omega
   obtain⟨w8,s8,v8,g8⟩:=v96.store zA (i:=3) (v:=.slice b3 m3 e3) rfl (by simp) (by intro c hc;simp[Value.cells]at hc;subst hc;rfl)
   have v8:ak w8 k10 ai (daL a4 n4 c4 b3 m3 e3 (upD j wn)):=by
     have e1:D.k=(j:Int):=by rw[hD];rfl
     have e2:D.st=1:=by rw[hD];rfl
     rw[e1,e2]at v8
     exact v8
   have B96:bW w17 w96:=(ab B7 hb95 B7.size).grown g96 (ab B7 hb95 B7.size).size λg hg=>U.fb g hg
   have B8:bW w17 w8:=B96.grown g8 B96.size λx ex=>by cases ex;omega
   have x8:=x96.put (λg hg ex=>U.mb.na g hg ex) g8
   have o8:=o96.put (λg hg ex=>hne3 g hg ex) g8
   have eup:(⟨D.k,D.st,setRow j (wn.length+1) ((wn.length+2:Nat):Int) nx0 j,D.ac.set (wn.length+1) false++[true]⟩:DA)=upD j wn:=by
     unfold upD
     rw[hnx0,hD];rfl
   have e8n:(upD j wn).nx=setRow j (wn.length+1) ((wn.length+2:Nat):Int) nx0 j:=by rw[<- eup]
   have e8a:(upD j wn).ac=D.ac.set (wn.length+1) false++[true]:=by rw[<- eup]
   obtain⟨w9,s9,s9',g9⟩:=dU (A6b.below B8) rfl a4 n4 c4 b3 m3 e3 (upD j wn)
   have eD:upD j wn=tB ts h itself:=by unfold tB;rw[if_neg (λhc=>hc hk1),if_neg (by rw[hi];simp),<- hwn,<- hkk]
   refine⟨w96,b3,m3,e3,r96,rfl,w8,s8,_,_,a4,n4,c4,b3,m3,e3,cg.load0 (cs:=daL a4 n4 c4 b3 m3 e3 (upD j wn)) v8 rfl,w9,s9,_,_,a4,n4,c4,b3,m3,e3,s9',?_⟩
   rw[<- eD]
   have OO:xN w17.heap.size w8 a4 n4 c4 b3 m3 e3 (upD j wn):=⟨by rw[e8n];exact x8,by rw[e8a];exact o8,λg hg ex=>by
     rcases f96 g ex with h1|h1
     · exact U.mb.ne g hg h1
     · have:=x7.lt g hg;omega,U.fa,fb3⟩
   exact eE.yes ⟨a4,n4,c4,b3,m3,e3,rfl,(OO.put g9 (by omega)).mono hB.size,Below.put (ab hB B8 hB.size) g9 ho6⟩
theorem sI {h:Hst}(o:h.ok)(hn:h.name.length <=1000000){w:World}(he:Env w){p:Option Addr}{ts:List Txt}(hA:fv w p ts)(htl:ts.length <=511):
   Cf dm #[.pointer p,h.v] w (Ret (eE (kB ts h) (tB ts h true) w)):=by
 apply rC
 intro k3 w3 hk3 hw3 k4 w4 hk4 hw4
 have hb3:=(hw3▸af w _:bW w w3)
 have hb4:=(hw4▸af w3 _:bW w3 w4)
 have A3:ak w3 k3 ah h.cells:=ak.new hk3 hw3
 have A4:ak w4 k4 ai [vI 0,vI 0,.slice none 0 0,.slice none 0 0]:=ak.new hk4 hw4
 have hB4:=ab hb3 hb4 hb3.size
 have hlt:=A4.lt
 have ho4:w.heap.size <=k4:=by have:=hb3.size;omega
 refine⟨_,aL.load0 (A3.below hb4) (Hst.len o),?_⟩
 refine av (ui o hn (he.step hB4) (hA.below hB4) htl true) ?_
 intro v w8 hS
 cases hk:kB ts h with
 | false=>
   rw[hk]at hS
   obtain⟨rfl,hb8⟩:=hS
   obtain⟨wx,s1,s2,g1⟩:=dU (A4.below hb8) rfl none 0 0 none 0 0 ⟨0,0,[],[]⟩
   exact⟨_,_,none,0,0,none,0,0,_,rfl,wx,s1,_,_,none,0,0,none,0,0,s2,eE.no (Below.put (ab hB4 hb8 hB4.size) g1 ho4)⟩
 | true=>
   rw[hk]at hS
   obtain⟨a1,n1,c1,b1,m1,e1,rfl,O,hb8⟩:=hS
   obtain⟨wx,s1,s2,g1⟩:=dU (A4.below hb8) rfl a1 n1 c1 b1 m1 e1 (tB ts h true)
   exact⟨_,_,a1,n1,c1,b1,m1,e1,_,rfl,wx,s1,_,_,a1,n1,c1,b1,m1,e1,s2,eE.yes ⟨a1,n1,c1,b1,m1,e1,rfl,(O.put g1 hlt).mono hB4.size,Below.put (ab hB4 hb8 hB4.size) g1 ho4⟩⟩
theorem IW {ok:Bool}{d:DA}{w:World}{v:Value}{w':World}(h:eE ok d w v w'):∃(err:Int) (D:DA) (a:Option Addr) (n c:Nat) (b:Option Addr) (m e:Nat),v=.tuple #[daV a n c b m e D,vI err]/\xN w.heap.size w' a n c b m e D/\bW w w'/\(ok=true/\err=0/\D=d\/ok=false/\err=181):=by
 unfold eE at h
 cases ok with
 | true=>
   rw[if_pos rfl]at h
   obtain⟨a,n,c,b,m,e,rfl,O,hb⟩:=h
   exact⟨0,d,a,n,c,b,m,e,rfl,O,hb,.inl ⟨rfl,rfl,rfl⟩⟩
 | false=>
   rw[if_neg (by decide)]at h
   obtain⟨rfl,hb⟩:=h
   exact⟨181,⟨0,0,[],[]⟩,none,0,0,none,0,0,rfl,⟨Ow.nil _ _ _ _,Ow.nil _ _ _ _,(λg hg=>by cases hg),bp.none _,bp.none _⟩,hb,.inr ⟨rfl,rfl⟩⟩
def H5 (ts:List Txt)(h:Hst)(only:Bool):DA:=if only=true then chD (ts.length+1) (cD ts h) 0 else tB ts h true
def ofR (ts:List Txt)(c:Cky)(now:Int):Rgn:=
 ⟨H5 ts c.host c.only,cj c.path,decide (now<c.exp) && !c.sec,decide (now<c.exp),decide (now<c.exp),decide (now<c.exp)&&(c.same !=3),decide (now<c.exp)&&(c.same==1)⟩
def KM (ok:Bool)(r:Rgn)(er:Int)(w:World)(v:Value)(w':World):Prop:=bW w w'/\
 if ok=true then ∃x y,v=.tuple #[r.v x y,vI 0]/\RgS w' r x y else v=.tuple #[rg0.v rp0 rp0,vI er]
theorem HP:Whl prog iB 2:=⟨⟨_,_,CE⟩,by kernel_rfl⟩
theorem HQ:Whl prog iC 3:=⟨⟨_,_,CF⟩,by kernel_rfl⟩
set_option maxHeartbeats 1000000 in
theorem tQ {c:Cky}(o:c.ok)(hn:c.host.name.length <=1000000)(hp:c.path.length <=60000){w:World}(he:Env w){p:Option Addr}{ts:List Txt}(hA:fv w p ts)(htl:ts.length <=511)(now:Int):
   Cf mr #[.pointer p,c.v,vI now] w (Ret (KM (kB ts c.host) (ofR ts c now) 181 w)):=by
 apply AX
 intro k4 w4 hk4 hw4 k6 w6 hk6 hw6
 have b4:=(hw4▸af w _:bW w w4)
 have b6:=(hw6▸af w4 _:bW w4 w6)
 have A4:ak w4 k4 bt c.cells:=ak.new hk4 hw4
 have A6:ak w6 k6 ar (rg0.cells rp0 rp0):=ak.new hk6 hw6
 have B6:=ab b4 b6 b4.size
 have A46:=A4.below b6
 have s4:=b4.size
 have s6:=B6.size
 have l6:=A6.lt
 refine⟨λv8 W=>W=w6/\v8=.func (.func (if c.only=true then fM else dm)) #[] #[],⟨rfl,_,A46.load1 di rfl (i:=20) (cY o 0),ae.of (λh=>⟨rfl,by rw[if_pos h]⟩) (λh=>⟨rfl,by rw[if_neg (by rw[h];decide)]⟩)⟩,λv8=>aE.of ?_ _⟩
 rintro wj ⟨rfl,rfl⟩
 refine⟨rfl,_,aL.load A46 (i:=2) (us:=c.host.cells) (Hst.len o) (λj hj=>qQ o hj),?_⟩
 have hset:Cf (if c.only=true then fM else dm) #[.pointer p,c.host.v] wj (Ret (eE (kB ts c.host) (H5 ts c.host c.only) wj)):=by
   unfold H5
   by_cases h:c.only=true
   · rw[if_pos h,if_pos h];exact xV o hn (he.step B6) (hA.below B6) htl
   · rw[if_neg h,if_neg h];exact sI o hn (he.step B6) (hA.below B6) htl
 have hcal:iQ prog (if c.only=true then fM else dm)=true:=by
   by_cases h:c.only=true
   · rw[if_pos h];kernel_rfl
   · rw[if_neg h];kernel_rfl
 refine Bq.of hcal (av hset ?_)
 intro v w21 hv
 obtain⟨err,D,a,n,cc,b,m,e,rfl,O,b21,hcase⟩:=IW hv
 refine⟨_,_,a,n,cc,b,m,e,err,rfl,?_⟩
 intro k9 w9 hk9 hw9
 have B21:=ab B6 b21 B6.size
 have b9:=(hw9▸af w21 _:bW w21 w9)
 have A9:ak w9 k9 ai [vI 0,vI 0,.slice none 0 0,.slice none 0 0]:=ak.new hk9 hw9
 obtain⟨wx,q1,v1,g1⟩:=cg.store0 (P:=prog) (cs:=daL a n cc b m e D) rfl (iF _ _ _ _ _ _ _) A9 rfl
 have bx:bW w21 wx:=Below.put b9 g1 (by omega)
 have Bx:=ab B21 bx B21.size
 have b6x:=ab b21 bx b21.size
 have A4x:=A46.below b6x
 refine⟨wx,q1,rfl,_,A4x.load1 aB rfl (i:=21) (cY o 1),?_⟩
 refine av (Ia c.path hp wx) ?_
 rintro _ w27 ⟨a1,n1,c1,b1,m1,e1,rfl,O1,b27⟩
 refine⟨_,_,a1,n1,c1,b1,m1,e1,_,rfl,?_⟩
 intro k11 w11 hk11 hw11
 have B27:=ab Bx b27 Bx.size
 have b11:=(hw11▸af w27 _:bW w27 w11)
 have A11:ak w11 k11 ai [vI 0,vI 0,.slice none 0 0,.slice none 0 0]:=ak.new hk11 hw11
 obtain⟨wy,q2,v2,g2⟩:=cg.store0 (P:=prog) (cs:=daL a1 n1 c1 b1 m1 e1 (cj c.path)) rfl (iF _ _ _ _ _ _ _) A11 rfl
 have by_:bW w27 wy:=Below.put b11 g2 (by omega)
 have bxy:=ab b27 by_ b27.size
 have By:=ab Bx bxy Bx.size
 refine⟨wy,q2,_,_,a,n,cc,b,m,e,cg.load0 (cs:=daL a n cc b m e D) (v1.below bxy) rfl,_,_,a1,n1,c1,b1,m1,e1,cg.load0 (cs:=daL a1 n1 c1 b1 m1 e1 (cj c.path)) v2 rfl,?_⟩
 intro k13 w13 hk13 hw13
 have b13:=(hw13▸af wy _:bW wy w13)
 have A13:ak w13 k13 ar (rg0.cells rp0 rp0):=ak.new hk13 hw13
 have SH:DaS wy a n cc b m e D:=(O.das.below bx).below bxy
 have SP:DaS wy a1 n1 c1 b1 m1 e1 (cj c.path):=O1.das.below by_
 obtain⟨wz,q3,v3,g3⟩:=bH.store0 (P:=prog) (cs:=(⟨D,cj c.path,false,false,false,false,false⟩:Rgn).cells ⟨a,n,cc,b,m,e⟩ ⟨a1,n1,c1,b1,m1,e1⟩) rfl (Rgn.one _ _ _) A13 rfl
 have bz:bW wy wz:=Below.put b13 g3 (by omega)
 have byz:=ab b6x bxy b6x.size
 have A4z:=(A46.below byz).below bz
 refine⟨wz,q3,λW=>bW wy W/\ak W k13 ar ((⟨D,cj c.path,decide (now<c.exp) && !c.sec,decide (now<c.exp),decide (now<c.exp),decide (now<c.exp)&&(c.same !=3),decide (now<c.exp)&&(c.same==1)⟩:Rgn).cells ⟨a,n,cc,b,m,e⟩ ⟨a1,n1,c1,b1,m1,e1⟩),⟨rfl,_,A4z.load1 kH rfl (i:=25) (cY o 5),ae.of (λh=>?_) (λh=>?_)⟩,aE.of ?_ _⟩
 · obtain⟨wa,r1,u1,h1⟩:=HP.store (P:=prog) (cs:=[.bool (!c.sec),.bool true]) rfl (aN rfl (aN rfl hQ)) v3 (i:=8) (show 8+2 <=13 by decide)
   have ba:=Below.put bz h1 (by omega)
   have ne4:k4≠k13:=by have:=A46.lt;have:=byz.size;omega
   have A4a:=A4z.grown h1 (gM ne4)
   obtain⟨wb,r2,u2,h2⟩:=HQ.store (P:=prog) (cs:=[.bool true,.bool (c.same !=3),.bool (c.same==1)]) rfl (aN rfl (aN rfl (aN rfl hQ))) u1 (i:=10) (show 10+3 <=13 by decide)
   refine⟨rfl,_,A4z.load1 di rfl (i:=22) (cY o 2),rfl,wa,r1,rfl,_,A4a.load1 aI rfl (i:=24) (cY o 4),rfl,_,A4a.load1 aI rfl (i:=24) (cY o 4),rfl,wb,r2,Below.put ba h2 (by omega),?_⟩
   rw[h]
   exact u2
 · refine⟨bz,?_⟩
   rw[h]
   exact v3
 rintro wj2 ⟨bj,Aj⟩
 have Bj:=ab By bj By.size
 refine⟨_,bH.load0 Aj rfl,?_⟩
 have herr:i64.wrap err=err:=by rcases hcase with⟨_,h,_⟩|⟨_,h⟩ <;> rw[h] <;> rfl
 refine av (IZ _ _ _ err 0 herr rfl wj2) ?_
 rintro _ w53 ⟨b53,rfl⟩
 have B53:=ab Bj b53 Bj.size
 have A6z:=(A6.below (ab byz bj byz.size)).below b53
 rcases hcase with⟨hk,rfl,rfl⟩|⟨hk,rfl⟩
 · rw[if_pos (by rfl)]
   obtain⟨wq,r3,u3,h3⟩:=bH.store0 (P:=prog) (cs:=(ofR ts c now).cells ⟨a,n,cc,b,m,e⟩ ⟨a1,n1,c1,b1,m1,e1⟩) rfl (Rgn.one _ _ _) A6z rfl
   refine⟨_,_,rfl,wq,r3,_,ak.res (bH.load0 u3 rfl),Below.put B53 h3 (by omega),?_⟩
   rw[if_pos hk]
   have bq:bW w53 w53:=Below.refl _ _
   have k6a:∀g,bu a=some g->g≠k6:=λg hg=>by have:=O.fa g hg;omega
   refine⟨⟨a,n,cc,b,m,e⟩,⟨a1,n1,c1,b1,m1,e1⟩,rfl,?_,?_⟩
   · exact((((O.below bx).below bxy).below bj).below b53 |>.put h3 l6).das
   · exact(((O1.below by_).below bj).below b53 |>.put h3 (by have:=b6x.size;omega)).das
 · rw[if_neg (by decide)]
   obtain⟨wq,r3,u3,h3⟩:=bH.store0 (P:=prog) (cs:=rg0.cells rp0 rp0) rfl (Rgn.one _ _ _) A6z rfl
   refine⟨_,_,rfl,wq,r3,_,ak.res (bH.load0 u3 rfl),Below.put B53 h3 (by omega),?_⟩
   rw[if_neg (by rw[hk];decide)];rfl
theorem tE {w:World}{a b a1:Option Addr}{n c m e l1 c1:Nat}{d:DA}{ws:List Int}(h:DaS w a n c b m e d)(hs:Sl fu w iv a1 l1 c1 ws):
   Cf dC #[daV a n c b m e d,.slice a1 l1 c1] w (Ret λv w'=>v=.bool (ja d ws)/\bW w w'):=by
 apply AQ
 intro k2 w2 hk2 hw2
 have hb2:=(hw2▸af w _:bW w w2)
 have A2:ak w2 k2 ai [vI d.k,vI d.st,.slice a n c,.slice b m e]:=ak.new hk2 hw2
 refine⟨_,_,a,n,c,b,m,e,cg.load0 (cs:=[vI d.k,vI d.st,.slice a n c,.slice b m e]) A2 rfl,?_⟩
 refine av (ky (h.below hb2)) ?_
 rintro _ w9 ⟨rfl,hb9⟩
 have hB:=ab hb2 hb9 hb2.size
 have A9:=A2.below hb9
 have hx:=h.below hB
 have hy:=hs.below hB
 have hl1:=hy.len
 have hl1':=hy.le
 subst hl1
 refine⟨_,rfl,ae.of (λh1=>⟨?_,hB⟩) (λh1=>⟨rfl,d.st,A9.load1 aI rfl rfl,?_⟩)⟩
 · unfold ja
   rw[show okD d=false by simpa using h1];rfl
 have hok:okD d=true:=by simpa using h1
 have o:=fG.1 hok
 have hkk:=o.kk
 have hm:=hx.ac.len
 have hn:=hx.nx.len
 refine⟨λM s i w'=>∃j:Nat,j <=ws.length/\i=(j:Int)/\M=ws.length-j/\HB d.k (ws.take j)=true/\s=((d.run d.s ((ws.take j).map Int.toNat):Nat):Int)/\w'=w9,⟨_,0,by omega,rfl,rfl,rfl,by have:=o.s0;show d.st=((d.st.toNat:Nat):Int);omega,rfl⟩,?_⟩
 intro M s i
 refine aE.of ?_ _
 rintro w' ⟨j,hj,rfl,rfl,hsy,rfl,hw'⟩
 rw[hw'];clear hw' w'
 have hsl:∀x∈(ws.take j).map Int.toNat,x<d.K:=by
   intro x hx'
   obtain⟨y,hy',rfl⟩:=List.mem_map.1 hx'
   have:=List.all_eq_true.1 hsy y hy'
   simp only[Bool.and_eq_true,dTx]at this
   omega
 have hrl:=o.run_lt o.s_lt hsl
 refine ae.of (λh6=>?_) (λh6=>?_) <;> simp only[dTx,dFx]at h6
 · have hlt:j<ws.length:=by omega
   have bad: ¬ (0 <=ws[j]/\ws[j]<d.k)->ja d ws=false:=λhno=>by
     unfold ja
     have:HB d.k ws=false:=by
       rw[Bool.eq_false_iff]
       intro hc
       have:=List.all_eq_true.1 hc _ (List.getElem_mem hlt)
       simp only[Bool.and_eq_true,dTx]at this
       exact hno this
     rw[this,Bool.false_and,Bool.and_false]
   refine⟨⟨⟨by omega,h6⟩,hy.isSome hlt⟩,_,hy.num aI hlt,λw'=>w'=w9/\0 <=ws[j]/\ws[j]<d.k,?_,aE.of ?_ _⟩
   · refine ae.of (λh7=>⟨?_,hB⟩) (λh7=>⟨rfl,_,A9.load1 aI rfl rfl,ae.of (λh8=>⟨?_,hB⟩) (λh8=>?_)⟩)
     · rw[bad (by simp only[dTx]at h7;omega)]
     · rw[bad (by simp only[dTx]at h8;omega)]
     · simp only[dFx]at h7 h8
       exact⟨rfl,by omega,by omega⟩
   · rintro wj ⟨hwj,h7,h8⟩
     rw[hwj];clear hwj wj
     obtain⟨x,hxx⟩:∃x:Nat,ws[j]=(x:Int):=⟨ws[j].toNat,by omega⟩
     have hxk:x<d.K:=by omega
     have hN:=o.n2
     have hK:=o.k2
     obtain⟨e1,e2⟩:=qZ (s:=d.run d.s ((ws.take j).map Int.toNat)) (x:=x) (k:=d.K) (N:=d.n) hrl hxk hN (by omega)
     have hnl:=o.lenN
     obtain⟨v,hv,hv0,hv1,hto⟩:=o.at hrl hxk
     rw[hkk]at e1
     refine⟨rfl,a,n,c,A9.load1 bm rfl rfl,rfl,d.k,A9.load1 aI rfl rfl,?_⟩
     rw[hxx,e1]
     have hidx:d.run d.s ((ws.take j).map Int.toNat)*d.K+x<d.nx.length:=by omega
     have hgv:d.nx[d.run d.s ((ws.take j).map Int.toNat)*d.K+x]=v:=by
       rw[List.getElem?_eq_getElem hidx]at hv;exact Option.some.inj hv
     refine⟨⟨⟨by omega,by omega⟩,hx.nx.isSome hidx⟩,v,by rw[<- hgv];exact hx.nx.num aI hidx,ws.length-(j+1),by omega,j+1,by omega,by rw[wrap_i64 (by omega) (by omega)];omega,rfl,?_,?_,rfl⟩
     · unfold HB at hsy ⊢
       rw[List.take_succ_eq_append_getElem hlt,List.all_append,hsy]
       rw[List.all_cons,List.all_nil,decide_eq_true h7,decide_eq_true h8];rfl
     · rw[List.take_succ_eq_append_getElem hlt,List.map_append,oY,List.map_cons,List.map_nil,hxx,Int.toNat_natCast]
       show v=((d.to _ x:Nat):Int)
       rw[hto];omega
 · have:j=ws.length:=by omega
   subst this
   rw[List.take_length]at hsy hrl ⊢
   have hidx:d.run d.s (ws.map Int.toNat)<d.ac.length:=hrl
   obtain⟨v,hv,hrep⟩:=hx.ac.load1 (P:=prog) (i:=((d.run d.s (ws.map Int.toNat):Nat):Int)) di rfl rfl (by rw[Int.toNat_natCast];exact hidx)
   have hb:=uF hrep
   subst hb
   refine⟨rfl,b,m,e,A9.load1 bf rfl rfl,⟨⟨by omega,by omega⟩,hx.ac.isSome hidx⟩,_,hv,?_,hB⟩
   unfold ja
   rw[hok,hsy,Bool.true_and,Bool.true_and]
   congr 1
   simp only[Int.toNat_natCast]
   exact CU hidx
def hasB (ts:List Txt)(r:Rgn)(q:Req):Bool:=
 Bp q&&((if q.sec=true then r.s1 else r.s0)&&((if q.cross=0 then r.c0 else if q.cross=1 then r.c1 else r.c2)&&(ja r.h (hwV ts q.host)&&ja r.p (rI q.path))))
theorem AM {W:World}{k:Nat}{r:Rgn}{x y:Rgp}(h:ak W k ar (r.cells x y)):(Instr.loadAt ai (.pointer (some ⟨k,0,none⟩))).run prog W=.ok (daV x.a x.n x.c x.b x.m x.e r.h) W:=
 cg.load h (i:=0) (us:=daL x.a x.n x.c x.b x.m x.e r.h) rfl λj hj=>by
   match j,hj with
   | 0,_=>rfl
   | 1,_=>rfl
   | 2,_=>rfl
   | 3,_=>rfl
   | j+4,hj=>omega
theorem AN {W:World}{k:Nat}{r:Rgn}{x y:Rgp}(h:ak W k ar (r.cells x y)):(Instr.loadAt ai (.pointer (some ⟨k,4,none⟩))).run prog W=.ok (daV y.a y.n y.c y.b y.m y.e r.p) W:=
 cg.load h (i:=4) (us:=daL y.a y.n y.c y.b y.m y.e r.p) rfl λj hj=>by
   match j,hj with
   | 0,_=>rfl
   | 1,_=>rfl
   | 2,_=>rfl
   | 3,_=>rfl
   | j+4,hj=>omega
set_option maxHeartbeats 1000000 in
theorem AL {q:Req}(o:q.ok)(hn:q.host.name.length <=1000000)(hp:q.path.length <=1000000){w:World}(he:Env w){p:Option Addr}{ts:List Txt}(hA:fv w p ts){r:Rgn}{x y:Rgp}(hr:RgS w r x y):
   Cf nz #[.pointer p,r.v x y,q.v] w (Ret λv w'=>v=.bool (hasB ts r q)/\bW w w'):=by
 apply yI
 intro k4 w4 hk4 hw4 k5 w5 hk5 hw5
 have b4:=(hw4▸af w _:bW w w4)
 have b5:=(hw5▸af w4 _:bW w4 w5)
 have A4:ak w4 k4 ar (r.cells x y):=ak.new hk4 hw4
 have A5:ak w5 k5 ax q.cells:=ak.new hk5 hw5
 have B5:=ab b4 b5 b4.size
 have A45:=A4.below b5
 refine⟨λW=>bW w5 W/\Bp q=true/\(if q.sec=true then r.s1 else r.s0)=true/\(if q.cross=0 then r.c0 else if q.cross=1 then r.c1 else r.c2)=true,⟨_,dW.load0 A5 (Req.len o),?_⟩,aE.of ?_ _⟩
 · refine av (IV o (by omega) (he.step B5)) ?_
   rintro _ w10 ⟨rfl,b10⟩
   have B10:=ab B5 b10 B5.size
   refine⟨_,rfl,ae.of (λh=>?_) (λh=>?_)⟩
   · have h:Bp q=false:=by simpa using h
     exact⟨by unfold hasB;rw[h];rfl,B10⟩
   have h:Bp q=true:=by simpa using h
   have hc:0 <=q.cross/\q.cross <=2:=by
     unfold Bp at h
     simp only[Bool.and_eq_true,dTx]at h
     exact⟨h.2.2.1,h.2.2.2⟩
   refine⟨rfl,_,(A5.below b10).load1 di rfl (i:=0) rfl,?_⟩
   refine av (Ho q.sec w10) ?_
   rintro _ w15 ⟨rfl,hw15⟩
   rw[hw15];clear hw15 w15
   have AA:=A45.below b10
   refine⟨_,rfl,rfl,⟨⟨by split <;> omega,by split <;> omega⟩,rfl⟩,(if q.sec=true then r.s1 else r.s0),?_,ae.of (λh2=>?_) (λh2=>?_)⟩
   · by_cases hs:q.sec=true
     · rw[if_pos hs,if_pos hs]
       exact AA.load1 di rfl (i:=9) rfl
     · rw[if_neg hs,if_neg hs]
       exact AA.load1 di rfl (i:=8) rfl
   · have h2:(if q.sec=true then r.s1 else r.s0)=false:=by simpa using h2
     exact⟨by unfold hasB;rw[h,h2];rfl,B10⟩
   have h2:(if q.sec=true then r.s1 else r.s0)=true:=by simpa using h2
   refine⟨rfl,_,(A5.below b10).load1 aI rfl (i:=20) (hU o 1),rfl,⟨⟨hc.1,by omega⟩,rfl⟩,(if q.cross=0 then r.c0 else if q.cross=1 then r.c1 else r.c2),?_,ae.of (λh3=>?_) (λh3=>?_)⟩
   · have h4:q.cross=0\/q.cross=1\/q.cross=2:=by omega
     rcases h4 with h4|h4|h4 <;> rw[h4]
     · exact AA.load1 di rfl (i:=10) rfl
     · exact AA.load1 di rfl (i:=11) rfl
     · exact AA.load1 di rfl (i:=12) rfl
   · have h3:(if q.cross=0 then r.c0 else if q.cross=1 then r.c1 else r.c2)=false:=by simpa using h3
     exact⟨by unfold hasB;rw[h,h2,h3];rfl,B10⟩
   · have h3:(if q.cross=0 then r.c0 else if q.cross=1 then r.c1 else r.c2)=true:=by simpa using h3
     exact⟨b10,h,h2,h3⟩
 rintro wj ⟨bj,h,h2,h3⟩
 have Bj:=ab B5 bj B5.size
 refine⟨rfl,_,(A5.below bj).load1 aB rfl (i:=19) (hU o 0),?_⟩
 refine av (ki q.path hp wj) ?_
 rintro _ w32 ⟨a3,n3,c3,rfl,o3,f3,b32⟩
 have bd:=(ab bj b32 bj.size).drew
 have B0:=ab B5 bd B5.size
 have o0:Sl fu w32.drew iv a3 n3 c3 (rI q.path):=o3.all.below (dj w32)
 have hst:∀{W:World},Below w32.drew.heap.size w32.drew W->(Instr.loadAt ah (.pointer (some ⟨k5,1,none⟩))).run prog W=.ok q.host.v W:=λhb=>aL.load ((A5.below bd).below hb) (i:=1) (us:=q.host.cells) (Hst.len o) (λj hj=>rA o hj)
 have hos:∀{W:World},Below w32.drew.heap.size w32.drew W->(Instr.loadAt ai (.pointer (some ⟨k4,0,none⟩))).run prog W=.ok (daV x.a x.n x.c x.b x.m x.e r.h) W:=λhb=>AM ((A45.below bd).below hb)
 have pas:∀{W:World},Below w32.drew.heap.size w32.drew W->(Instr.loadAt ai (.pointer (some ⟨k4,4,none⟩))).run prog W=.ok (daV y.a y.n y.c y.b y.m y.e r.p) W:=λhb=>AN ((A45.below bd).below hb)
 have r0:Below w32.drew.heap.size w32.drew w32.drew:=Below.refl _ _
 have word:=nL o hn (he.step B0) (hA.below B0)
 have ask:∀{W:World} {a n c},Below w32.drew.heap.size w32.drew W->Ow fu ay W NoB a n c (hwV ts q.host)->
     Cf dC #[daV x.a x.n x.c x.b x.m x.e r.h,.slice a n c] W λe41 w41=>∃(b41:Bool),e41=.returned (.bool b41)/\
       ae b41
       ((true=true)/\
       ∃(n0:Int) (n1:Int) (a2:Option Addr) (l2 c2:Nat) (a3':Option Addr) (l3 c3':Nat),(Instr.loadAt ai (.pointer (some ⟨k4,4,none⟩))).run prog w41=.ok (.agg #[vI n0,vI n1,.slice a2 l2 c2,.slice a3' l3 c3']) w41/\
       Cf dC #[.agg #[vI n0,vI n1,.slice a2 l2 c2,.slice a3' l3 c3'],.slice a3 n3 c3] w41 λe46 w46=>∃(b46:Bool),e46=.returned (.bool b46)/\
       ((.bool b46:Value)=.bool (hasB ts r q)/\bW w w46))
       ((.bool false:Value)=.bool (hasB ts r q)/\bW w w41):=by
   intro W a n c hb hO
   have BW:=ab B0 hb B0.size
   refine av (tE (hr.h.below BW) hO.all) ?_
   rintro _ w41 ⟨rfl,b41⟩
   have b41':=ab hb b41 hb.size
   have B41:=ab BW b41 BW.size
   refine⟨_,rfl,ae.of (λh5=>⟨rfl,_,_,y.a,y.n,y.c,y.b,y.m,y.e,pas b41',?_⟩) (λh5=>⟨by unfold hasB;rw[h,h2,h3,h5];rfl,B41⟩)⟩
   refine av (tE (hr.p.below B41) (o0.below b41')) ?_
   rintro _ w46 ⟨rfl,b46⟩
   exact⟨_,rfl,by unfold hasB;rw[h,h2,h3,h5];rfl,ab B41 b46 B41.size⟩
 refine⟨a3,n3,c3,_,rfl,rfl,rfl,⟨_,_,x.a,x.n,x.c,x.b,x.m,x.e,hos r0,_,hst r0,?_⟩,_,hst r0,⟨_,_,x.a,x.n,x.c,x.b,x.m,x.e,hos r0,?_⟩,?_⟩
 · refine av word ?_
   rintro _ w40 ⟨a,n,c,rfl,hO,hF,hb⟩
   exact⟨a,n,c,rfl,ask hb hO⟩
 · refine av word ?_
   rintro _ w40 ⟨a,n,c,rfl,hO,hF,hb⟩
   exact⟨a,n,c,rfl,ask hb hO⟩
 · refine av word ?_
   rintro _ w40 ⟨a,n,c,rfl,hO,hF,hb⟩
   exact⟨a,n,c,rfl,_,_,x.a,x.n,x.c,x.b,x.m,x.e,hos hb,ask hb hO⟩
def Eo (s:Txt):Bool:=match cL (s++[46,120])with|some h=>(h.name==s++[46,120])&&((az h).length==2)|none=>false
theorem GZ (s:Txt):Eo s=aW s:=by
 have hx:aW [120]=true:=by decide
 have hdx:cG [120]=false:=by decide
 cases hl:aW s with
 | true=>
   have e:Lib.join [s,[120]] [46]=s++[46,120]:=by rw[uT,Lib.join_one]
   have hs:=(gA hl).2.1
   obtain⟨h1,h2,h3⟩:=nJ (L:=[s,[120]]) (by simp) (by intro x hx';simp at hx';rcases hx' with rfl|rfl <;> assumption) hdx (by rw[e];simp;omega)
   unfold Eo
   rw[e]at h1 h3
   rw[h1]
   simp[h3]
 | false=>
   unfold Eo
   cases hv:cL (s++[46,120])with
   | none=>rfl
   | some h=>
     simp only
     rw[Bool.eq_false_iff]
     intro hc
     rw[Bool.and_eq_true,beq_iff_eq,beq_iff_eq]at hc
     obtain⟨c1,c2⟩:=hc
     have o:=fm hv
     have e:=(gB o (d:=h) (by omega)).2
     have hm:s∈az h:=by
       rw[c1,cU]at e
       rw[e,List.length_append]at c2
       rw[e]
       have e2:bL 46 [] [120]=[[120]]:=by decide
       rw[e2]at c2 ⊢
       have c3:(bL 46 [] s).length=1:=by simpa using c2
       obtain⟨x,ex⟩:=List.length_eq_one_iff.1 c3
       have hj:=fP 46 s []
       rw[ex,Lib.join_one,List.nil_append]at hj
       rw[ex,hj];simp
     have:=ly o s hm
     rw[hl]at this;cases this
theorem kG (s:Txt)(hs:s.length <=1000000)(w:World)(he:Env w):Cf iH #[vS s] w (Ret λv w'=>v=.bool (iX s)/\bW w w'):=by
 apply qE
 refine av (jB s (by omega) w he) ?_
 rintro _ w7 ⟨rfl,hb7⟩
 unfold iX
 cases hv:cL s with
 | none=>
   refine⟨_,_,rfl,λk3 w3 hk3 hw3=>?_⟩
   have hb3:=(hw3▸af w7 _:bW w7 w3)
   have A3:ak w3 k3 ah gK.cells:=ak.new hk3 hw3
   obtain⟨wx,hs4,A4,g4⟩:=aL.store0 (P:=prog) (cs:=gK.cells) rfl (Hst.one _) A3 rfl
   refine⟨wx,hs4,ae.no rfl ⟨rfl,ab hb7 (Below.put hb3 g4 (by omega)) hb7.size⟩⟩
 | some h=>
   have o:=fm hv
   refine⟨_,_,rfl,λk3 w3 hk3 hw3=>?_⟩
   have hb3:=(hw3▸af w7 _:bW w7 w3)
   have A3:ak w3 k3 ah gK.cells:=ak.new hk3 hw3
   obtain⟨wx,hs4,A4,g4⟩:=aL.store0 (P:=prog) (cs:=h.cells) (Hst.len o) (Hst.one _) A3 rfl
   have hB:=ab hb7 (Below.put hb3 g4 (by omega)) hb7.size
   refine⟨wx,hs4,ae.yes rfl ⟨rfl,h.kind,A4.load1 aI rfl rfl,?_⟩⟩
   refine ae.of (λh1=>?_) (λh1=>⟨?_,hB⟩)
   · refine⟨_,aL.load0 A4 (Hst.len o),?_⟩
     refine av (nK o wx (he.step hB)) ?_
     rintro _ w9 ⟨rfl,hb9⟩
     refine⟨_,rfl,?_,ab hB hb9 hB.size⟩
     have:h.kind≠1:=by simpa using h1
     simp[this]
   · have:h.kind=1:=by simpa using h1
     simp[this]
theorem mI (s:Txt)(hs:s.length <=1000000)(w:World)(he:Env w):Cf gV #[vS s] w (Ret λv w'=>v=.bool (aW s)/\bW w w'):=by
 apply sY
 have hl:((s.length+[46,120].length:Nat):Int) <=i64.max:=by show((s.length+2:Nat):Int) <=9223372036854775807;omega
 refine⟨hl,?_⟩
 rintro _ rfl
 rw[<- GZ]
 unfold Eo
 refine av (jB (s++[46,120]) (by simp;omega) w he) ?_
 rintro _ w7 ⟨rfl,hb7⟩
 cases hv:cL (s++[46,120])with
 | none=>
   refine⟨_,_,rfl,λk3 w3 hk3 hw3=>?_⟩
   have hb3:=(hw3▸af w7 _:bW w7 w3)
   have A3:ak w3 k3 ah gK.cells:=ak.new hk3 hw3
   obtain⟨wx,hs4,A4,g4⟩:=aL.store0 (P:=prog) (cs:=gK.cells) rfl (Hst.one _) A3 rfl
   refine⟨wx,hs4,ae.no rfl ⟨rfl,ab hb7 (Below.put hb3 g4 (by omega)) hb7.size⟩⟩
 | some h=>
   have o:=fm hv
   refine⟨_,_,rfl,λk3 w3 hk3 hw3=>?_⟩
   have hb3:=(hw3▸af w7 _:bW w7 w3)
   have A3:ak w3 k3 ah gK.cells:=ak.new hk3 hw3
   obtain⟨wx,hs4,A4,g4⟩:=aL.store0 (P:=prog) (cs:=h.cells) (Hst.len o) (Hst.one _) A3 rfl
   have hB:=ab hb7 (Below.put hb3 g4 (by omega)) hb7.size
   refine⟨wx,hs4,ae.yes rfl ⟨rfl,h.name,A4.load1 aB rfl rfl,hl,?_⟩⟩
   rintro _ rfl
   refine ae.of (λh1=>?_) (λh1=>⟨?_,hB⟩)
   · refine⟨_,aL.load0 A4 (Hst.len o),?_⟩
     have hn:h.name=s++[46,120]:=by simpa using h1
     refine av (pq o (by rw[hn];simp;omega) wx (he.step hB)) ?_
     rintro _ w9 ⟨a,n,c,rfl,ho,_,hb9⟩
     refine⟨_,_,_,rfl,?_,ab hB hb9 hB.size⟩
     rw[ho.len]
     simp only[h1,Bool.true_and]
     congr 1
     rw[Bool.eq_iff_iff,beq_iff_eq,beq_iff_eq]
     omega
   · simp[h1]
theorem re (s:Txt)(hs:s.length <=1000000)(w:World)(he:Env w):Cf bJ #[vS s] w (Ret λv w'=>v=.bool (!aW s)/\bW w w'):=by
 apply qD
 refine av (mI s hs w he) ?_
 rintro _ w4 ⟨rfl,hb⟩
 exact⟨_,rfl,rfl,hb⟩
theorem zU {w:World}(he:Env w){A:Bl}{a:Option Addr}{n c:Nat}{xs:List Txt}(hs:Sl tS w A a n c xs)(hx:∀x∈xs,x.length <=1000000):
   Cf aU #[.slice a n c,.func (.func bJ) #[] #[]] w (Ret λv w'=>v=.bool (!xs.all aW)/\bW w w'):=by
 have hn:=hs.len
 subst hn
 have hle:=hs.le
 apply cM
 refine av (K:=λv w'=>∃i:Int,v=vI i/\(decide (i >=0))=(!xs.all aW)/\bW w w') ?_ ?_
 · apply de
   refine⟨λm i w'=>∃j:Nat,j <=xs.length/\i=(j:Int)/\m=xs.length-j/\(xs.take j).all aW=true/\bW w w',⟨_,0,by omega,rfl,rfl,rfl,Below.refl _ _⟩,?_⟩
   intro m i
   refine aE.of ?_ _
   rintro w' ⟨j,hj,rfl,rfl,hno,hB⟩
   refine ae.of (λh=>?_) (λh=>?_) <;> simp only[dTx,dFx]at h
   · have hlt:j<xs.length:=by omega
     have hs':=hs.below hB
     obtain⟨v,hv,hrep⟩:=hs'.load1 (P:=prog) (i:=(j:Int)) aB rfl rfl (by simpa using hlt)
     obtain⟨rfl,_⟩:=kh hrep
     simp only[Int.toNat_natCast]at hv
     refine⟨⟨⟨by omega,h⟩,hs'.isSome hlt⟩,_,hv,?_⟩
     refine av (re xs[j] (hx _ (List.getElem_mem hlt)) w' (he.step hB)) ?_
     rintro _ w3 ⟨rfl,hb3⟩
     have hB3:=ab hB hb3 hB.size
     refine⟨_,rfl,ae.of (λh3=>?_) (λh3=>?_)⟩
     · refine⟨_,rfl,?_,hB3⟩
       have:xs.all aW=false:=by
         rw[Bool.eq_false_iff]
         intro hc
         rw[List.all_eq_true.1 hc _ (List.getElem_mem hlt)]at h3;cases h3
       rw[this,decide_eq_true (by omega)];rfl
     · refine⟨xs.length-(j+1),by omega,j+1,by omega,by rw[wrap_i64 (by omega) (by omega)];omega,rfl,?_,hB3⟩
       rw[List.take_succ_eq_append_getElem hlt,List.all_append,hno]
       simpa using h3
   · have:j=xs.length:=by omega
     subst this
     rw[List.take_length]at hno
     exact⟨_,rfl,by rw[hno];decide,hB⟩
 · rintro _ w3 ⟨i,rfl,hi,hw3⟩
   exact⟨_,rfl,by rw[hi],hw3⟩
theorem yp {P:Program}{a b:Tmp}{t u:TypeId}{ρ:Tmp->Value}{w:World}{v v2:Value}(h1:(aZ t (ρ a)).run P w=.ok v w)(h2:(aZ u (ρ b)).run P w=.ok v2 w):
   (KH #[.cell a t,.cell b u] ρ).run P w=.ok (.tuple #[v,v2]) w:=by
 have e1:BH ρ (.cell a t)=aZ t (ρ a):=rfl
 have e2:BH ρ (.cell b u)=aZ u (ρ b):=rfl
 unfold KH
 rw[Sem.run_bind,Array.mapM_eq_mapM_toList,Sem.run_map]
 simp only[List.mapM_cons,List.mapM_nil,e1,e2,Sem.run_bind,Sem.run_pure,Result.andThen_ok,h1,h2]
 rfl
section
variable {F:Fence} {n:Nat} {P:Program} {ops:Array Oper} {Q:Exit->Act->World->Prop} {a:Act} {w:World} {rest:List Oper} {o:Oper}
theorem gH (hw:Region.wanted o (yielded ops a.tmps)=false)(hF:∀g,F.fn g)(hK:wpListIn F n P ops Q rest (a.put o.dst undef) w):wpListIn F n P ops Q (o::rest) a w:=by
 simp only[wpListIn,hw]
 exact⟨λf _=>hF f,hK⟩
theorem io (hw:Region.wanted o (yielded ops a.tmps)=true)(hd:∀c,o.op≠.defer c)(ha:o.about P w a.eval=none){b b':Bool}(hrun:(execOp a.eval o).run P w=.ok (.value (.bool b')) w)(hb:b'=b)(hK:wpListIn F n P ops Q rest (a.put o.dst (.bool b)) w):wpListIn F n P ops Q (o::rest) a w:=by
 subst hb;exact vL hw hd ha hrun hK
end
theorem sw {P:Program}{tb:TypeId}{bytes:Nat}{z:Value}(tf:TF P tb 1 bytes z){w:World}{k:Nat}{t:TypeId}{x:Value}(h:ak w k t [x])(b:Bool):∃w',(Instr.storeAt tb (.pointer (some ⟨k,0,none⟩)) (.bool b)).run P w=.ok () w'/\ak w' k t [.bool b]/\w.grownBy w' (some k):=
 h.store tf (i:=0) (v:=.bool b) rfl (by simp) (by intro c hcc;simp[Value.cells]at hcc;subst hcc;rfl)
theorem BL:∀{L:List Txt},(∀x∈L,x.length <=1000)->jr L <=1001*L.length
 | [],_=>by simp[jr]
 | x::L,h=>by
   have h1:=h x List.mem_cons_self
   have h2:=BL (L:=L) λy hy=>h y (List.mem_cons_of_mem _ hy)
   simp only[jr,List.length_cons]
   omega
theorem IF {L:List Txt}(hl:L.length <=1000)(hx:∀x∈L,x.length <=1000):(Lib.join L [46]).length <=1001000:=by
 cases L with
 | nil=>rw[Lib.join_nil];simp
 | cons x r=>
   have h1:=sz r x
   have h2:=BL hx
   rw[List.length_cons]at hl h2
   omega
section
variable {L t:List Txt} (hL:L=t.reverse)
include hL
theorem tK (hb:(decide (L.length=1)&&L.all iX)=true):cN t=cL (Lib.join L [46]):=by
 subst hL
 rw[Bool.and_eq_true,dTx,List.length_reverse,List.all_reverse]at hb
 unfold cN
 rw[if_pos hb]
 obtain⟨x,rfl⟩:=List.length_eq_one_iff.1 hb.1
 rw[List.reverse_singleton,Lib.join_one];rfl
theorem sH (hb:(decide (L.length=1)&&L.all iX)=false): ¬ (t.length=1/\t.all iX=true):=by
 subst hL
 rintro⟨h1,h2⟩
 rw[List.length_reverse,List.all_reverse,h2,decide_eq_true h1]at hb
 cases hb
theorem GL (hb:(decide (L.length=1)&&L.all iX)=false)(ha:L.all aW=false):cN t=none:=by
 have:=sH hL hb
 subst hL
 rw[List.all_reverse]at ha
 unfold cN
 rw[if_neg this,ha];rfl
theorem BZ (hb:(decide (L.length=1)&&L.all iX)=false)(ha:L.all aW=true){h:Hst}(hv:cL (Lib.join L [46])=some h):cN t=if h.kind=1 then some h else none:=by
 have:=sH hL hb
 subst hL
 rw[List.all_reverse]at ha
 unfold cN
 rw[if_neg this,if_pos ha,hv]
theorem Fi {b:Bool}(hb:b=(decide (L.length=1)&&L.all iX))(hbl:b=true\/L.all aW=true)(hv:cL (Lib.join L [46])=none):cN t=none:=by
 cases b with
 | true=>rw[tK hL hb.symm];exact hv
 | false=>
   have:=sH hL hb.symm
   have ha:=hbl.resolve_left (by simp)
   subst hL
   rw[List.all_reverse]at ha
   unfold cN
   rw[if_neg this,if_pos ha,hv]
end
noncomputable def txs (ts:List Txt)(ws:List Int):List Txt:=ws.map (ng ts)
section
open Go.Pk Go.RowKit Go.Shelf
attribute [local go_sem] Oper.semAt_some
theorem JO (a:Option Addr)(n c:Nat)(w:World):Cf 62 #[.slice a n c] w λe w'=>e=.returned (.func (.func 114) #[] #[.pointer (some ⟨w.heap.size,0,none⟩)])/\w'=w.alloc (.cells #[.slice a n c] aA):=by
 refine(j8 a n c (K:=λv w'=>v=(.func (.func 114) #[] #[.pointer (some ⟨w.heap.size,0,none⟩)])/\w'=w.alloc (.cells #[.slice a n c] aA)) ?_).mono ?_
 · intro k1 w1 hk1 hw1
   subst hk1 hw1
   exact⟨rfl,rfl⟩
 · rintro e w' ⟨v,rfl,rfl,rfl⟩
   exact⟨rfl,rfl⟩
def Lh:List (List Nat):=[[0,1,2,3,4,5,6],[0,2,1,3,4,5,6],[1,0,2,3,4,5,6],[1,2,0,3,4,5,6],[1,2,3,0,4,5,6],[1,2,3,4,0,5,6],[2,0,1,3,4,5,6],[2,1,0,3,4,5,6],[2,1,3,0,4,5,6],[2,1,3,4,0,5,6]]
set_option maxRecDepth 100000 in
set_option maxHeartbeats 8000000 in
theorem vP {ws:List Int}{w:World}(he:Env w){p:Option Addr}{ts:List Txt}(hA:fv w p ts)(htl:ts.length <=100000){a:Option Addr}{n c:Nat}(hs:Sl fu w iv a n c ws)(hin:∀b o,a=some ⟨b,o,none⟩->b<w.heap.size)
   (hw0:∀x∈ws,0 <=x/\x <=(ts.length:Int)) (hwl:ws.length <=1000) (hxl:∀x∈txs ts ws,x.length <=1000):
   CallsIn Fence.wide 6 prog 28 #[.pointer p,.slice a n c] w λe w'=>e=.returned (.tuple #[((cN (txs ts ws)).getD gK).v,.bool (cN (txs ts ws)).isSome])/\bW w w':=by
 have hF:∀g:FuncId,Fence.wide.fn g:=λ_=>trivial
 have hn:=hs.len
 subst hn
 obtain⟨w1,hw1⟩:∃w1,w1=w.alloc (.cells (Value.cells (.pointer p)) aR):=⟨_,rfl⟩
 obtain⟨w2,hw2⟩:∃w2,w2=w1.alloc (.cells br ah):=⟨_,rfl⟩
 obtain⟨w3,hw3⟩:∃w3,w3=w2.alloc (.cells #[.bool false] bR):=⟨_,rfl⟩
 obtain⟨w6,hw6⟩:∃w6,w6=w3.alloc (.cells #[.slice none 0 0] au):=⟨_,rfl⟩
 obtain⟨w7,hw7⟩:∃w7,w7=w6.alloc (.cells #[.slice a ws.length c] aA):=⟨_,rfl⟩
 obtain⟨k2,hk2⟩:∃k,k=w.heap.size:=⟨_,rfl⟩
 obtain⟨k4,hk4⟩:∃k,k=w1.heap.size:=⟨_,rfl⟩
 obtain⟨k5,hk5⟩:∃k,k=w2.heap.size:=⟨_,rfl⟩
 obtain⟨k6,hk6⟩:∃k,k=w3.heap.size:=⟨_,rfl⟩
 obtain⟨k7,hk7⟩:∃k,k=w6.heap.size:=⟨_,rfl⟩
 have b1:bW w w1:=hw1▸af w _
 have b2:bW w1 w2:=hw2▸af w1 _
 have b3:bW w2 w3:=hw3▸af w2 _
 have b6:bW w3 w6:=hw6▸af w3 _
 have b7:bW w6 w7:=hw7▸af w6 _
 have s1:w1.heap.size=w.heap.size+1:=by rw[hw1];simp
 have s2:w2.heap.size=w1.heap.size+1:=by rw[hw2];simp
 have s3:w3.heap.size=w2.heap.size+1:=by rw[hw3];simp
 have s6:w6.heap.size=w3.heap.size+1:=by rw[hw6];simp
 have s7:w7.heap.size=w6.heap.size+1:=by rw[hw7];simp
 have A2:ak w1 k2 aR [.pointer p]:=ak.new hk2 hw1
 have A4:ak w2 k4 ah gK.cells:=ak.new hk4 hw2
 have A5:ak w3 k5 bR [.bool false]:=ak.new hk5 hw3
 have A6:ak w6 k6 au [.slice none 0 0]:=ak.new hk6 hw6
 have A7:ak w7 k7 aA [.slice a ws.length c]:=ak.new hk7 hw7
 have B6:bW w w6:=((b1.trans (b2.mono (by omega))).trans (b3.mono (by omega))).trans (b6.mono (by omega))
 have B7:bW w w7:=B6.trans (b7.mono (by omega))
 have A2':ak w7 k2 aR [.pointer p]:=(((A2.below b2).below b3).below b6).below b7
 have A4':ak w7 k4 ah gK.cells:=((A4.below b3).below b6).below b7
 have A5':ak w7 k5 bR [.bool false]:=(A5.below b6).below b7
 have A6':ak w7 k6 au [.slice none 0 0]:=A6.below b7
 refine callsIn_of_wp_marks func28 rfl trivial ?_ rfl
 simp only[Tryz.ntmps28,List.size_toArray,List.length_cons,List.length_nil,Nat.reduceAdd,Nat.reduceSub,Array.replicate_succ,Array.replicate_zero,List.push_toArray,List.append_toArray,List.nil_append,List.cons_append]
 have eB:=enters_of func62 (by kernel_rfl) rfl
 have eN:=enters_of func50 (by kernel_rfl) rfl
 have eT:=enters_of func52 (by kernel_rfl) rfl
 have eA:=enters_of func54 (by kernel_rfl) rfl
 have eC:=enters_of func63 (by kernel_rfl) rfl
 have eJ:=enters_of func66 (by kernel_rfl) rfl
 have eP:=enters_of func65 (by kernel_rfl) rfl
 refine rb ?_
 apply wpIn_region_lit
 refine LR (by kernel_rfl) rfl (u:=.pointer p) (by kernel_rfl) hk2 hw1 ?_
 refine zc (by kernel_rfl) rfl (v:=.pointer (some ⟨k4,0,none⟩)) (w':=w2) (by rw[hk4,hw2];kernel_rfl) ?_
 refine zc (by kernel_rfl) rfl (v:=.pointer (some ⟨k5,0,none⟩)) (w':=w3) (by rw[hk5,hw3];kernel_rfl) ?_
 refine qO ?_
 refine rb ?_
 apply wpIn_region_lit
 refine zc (by kernel_rfl) rfl (v:=.pointer (some ⟨k6,0,none⟩)) (w':=w6) (by rw[hk6,hw6];kernel_rfl) ?_
 refine qO ?_
 refine rb ?_
 refine rb ?_
 apply wpIn_region_lit
 refine cJ (by kernel_rfl) (.inl rfl) (u:=.slice a ws.length c) (by kernel_rfl) ?_
 refine tH (by kernel_rfl) rfl (u:=.slice a ws.length c) (by kernel_rfl) (by decide) hF eB ((callsIn_wide.2 (JO a ws.length c w6)).mono ?_)
 rintro _ w7' ⟨rfl,hw7'⟩
 rw[<- hw7]at hw7'
 rw[hw7']
 clear hw7' w7'
 rw[<- hk7]
 refine⟨_,rfl,?_⟩
 refine qO ?_
 simp only[Act.put,List.setIfInBounds_toArray,List.set_cons_succ,List.set_cons_zero]
 apply wpIn_block
 have hws:=hs.below B7
 have I0:FJ tS aq au k6 w7.heap.size w7 (([]:List (Int×Int)).map λx=>ng ts x.2) w7:=⟨none,0,0,A6',Ow.nil _ _ _ _,(λg hg=>by cases hg),Below.refl _ _⟩
 refine wpIn_rangeFunc_ownG rfl (by decide) (gf:=114) (lb:= #[.pointer (some ⟨k7,0,none⟩)]) (by kernel_rfl) trivial (enters_of func114 (by kernel_rfl) rfl)
   (EV Fence.wide 5 trivial rfl (by decide) k7 ws (by omega) A7 hws) (λh1 h2=>h1.trans h2) (λV l o o' hl _ _ _=>vV λb hb e=> ?hKb) (Below.refl _ _) (λ_=>rfl)
   (λpre V=>FJ tS aq au k6 w7.heap.size w7 (pre.map λx=>ng ts x.2) V/\pre.length <=1000) (fun(_:Code) (pre:List (Int×Int)) (_:World)=>∃x∈pre,¬ (0 <=x.2/\x.2 <=(ts.length:Int))) (OwnFrom.and (D0 (by omega)) (ownFrom_pure _ _)) (λ_=>ownFrom_pure _ _) ⟨I0,by simp⟩
   (λx=> { tmps:= #[.pointer p,.slice a ws.length c,.pointer (some ⟨k2,0,none⟩),undef,.pointer (some ⟨k4,0,none⟩),.pointer (some ⟨k5,0,none⟩),.pointer (some ⟨k6,0,none⟩),undef,vI x.2,undef,undef,undef,.slice a ws.length c,.func (.func 114) #[] #[.pointer (some ⟨k7,0,none⟩)],vI x.1,vI x.2,undef,undef,undef,undef,undef,undef,undef,undef,undef,undef,undef,undef,undef,undef,undef,undef,undef,undef,undef,undef,undef,undef,undef,undef,undef,undef,undef,undef,undef,undef,undef,undef,undef,undef,undef,undef,undef,undef,undef,undef,undef,undef,undef,undef,undef,undef,undef,undef,undef,undef],defers:=[] }) ?assign ?body ?done ?stop
 case hKb=>
   rcases hb with rfl|⟨o2,e2⟩
   · omega
   · have:=hin b o2 e2;omega
 case assign=>
   intro l x V K hK
   apply wpIn_region_lit
   simp only[List.zip_toArray,List.foldl_toArray',List.foldl_toArray,List.zip_cons_cons,List.zip_nil_left,List.zip_nil_right,List.foldl_cons,List.foldl_nil,List.setIfInBounds_toArray,List.set_cons_succ,List.set_cons_zero]
   refine cJ (by kernel_rfl) (.inr rfl) (u:=vI x.2) (by kernel_rfl) ?_
   exact K7 hK
 case body=>
   rintro l pre x V ⟨hC,hlen0⟩ hlen
   have hwk:w.heap.size <=k6:=by omega
   have hCd:=hC.drew
   obtain⟨a1,n1,c1,C1,C2,C3,C4⟩:=hC
   have BV:bW w V:=B7.trans (C4.mono hwk)
   have hAV:fv V p ts:=hA.below BV
   have A2V:ak V k2 aR [.pointer p]:=A2'.block (C4.block k2 (by omega))
   have A4V:ak V k4 ah gK.cells:=A4'.block (C4.block k4 (by omega))
   have A5V:ak V k5 bR [.bool false]:=A5'.block (C4.block k5 (by omega))
   have l2V:(Instr.loadAt aR (.pointer (some ⟨k2,0,none⟩))).run prog V=.ok (.pointer p) V:=A2V.load1 gg rfl rfl
   have qn:CallsIn Fence.wide (6-1-1-1) prog 50 #[.pointer p] V λe w'=>e=.returned (vI ((ts.length:Int)+1))/\w'=V:=
     (callsIn_wide.2 (cb p ts (by omega) V hAV)).mono λe w' ⟨v,he,hv,hw⟩=>⟨by rw[he,hv],hw⟩
   obtain⟨V4,q4,_,g4⟩:=aL.store0 (P:=prog) (cs:=gK.cells) rfl (Hst.one _) A4V rfl
   obtain⟨V5,q5,_,g5⟩:=sw (P:=prog) qL (A5V.grown g4 (λe=>by cases e;omega)) false
   apply wpIn_block
   refine rb ?_
   refine rb ?_
   apply wpIn_region_lit
   refine cJ (by kernel_rfl) (.inl rfl) (u:=vI x.2) (by kernel_rfl) ?_
   by_cases c0:x.2<0
   · refine io (by kernel_rfl) (λc hc=>by cases hc) (by kernel_rfl) (b':=decide (x.2<0)) (by kernel_rfl) (decide_eq_true c0) ?_
     refine cJ (by kernel_rfl) (.inl rfl) (u:=.bool true) (by kernel_rfl) ?_
     refine gH (by kernel_rfl) (λ_=>trivial) ?_
     try simp only[Act.put,List.setIfInBounds_toArray,List.set_cons_succ,List.set_cons_zero]
     refine gH (by kernel_rfl) (λ_=>trivial) ?_
     refine gH (by kernel_rfl) (λ_=>trivial) ?_
     refine gH (by kernel_rfl) (λ_=>trivial) ?_
     try simp only[Act.put,List.setIfInBounds_toArray,List.set_cons_succ,List.set_cons_zero]
     refine io (by kernel_rfl) (λc hc=>by cases hc) (by kernel_rfl) (b':=true) (by kernel_rfl) rfl ?_
     refine qO ?_
     try simp only[Act.put,List.setIfInBounds_toArray,List.set_cons_succ,List.set_cons_zero]
     refine wpIn_cond_true (by kernel_rfl) ?_
     refine rb ?_
     apply wpIn_region_lit
     refine vL (by kernel_rfl) (λc hc=>by cases hc) (by kernel_rfl) (v:=gK.v) (w':=V) (by kernel_rfl) ?_
     refine cv (by kernel_rfl) rfl (by kernel_rfl) (by kernel_rfl) q4 ?_
     refine cv (by kernel_rfl) rfl (by kernel_rfl) (by kernel_rfl) q5 ?_
     try simp only[Act.put,List.setIfInBounds_toArray,List.set_cons_succ,List.set_cons_zero]
     refine qO ?_
     try simp only[Act.put,List.setIfInBounds_toArray,List.set_cons_succ,List.set_cons_zero]
     exact wpIn_ret ⟨KeepsFrom.trans (KeepsFrom.of_grownBy g4 (λj hj=>by cases hj;omega)) (KeepsFrom.of_grownBy g5 (λj hj=>by cases hj;omega)),x,by simp,by omega⟩
   refine io (by kernel_rfl) (λc hc=>by cases hc) (by kernel_rfl) (b':=decide (x.2<0)) (by kernel_rfl) (decide_eq_false c0) ?_
   refine cJ (by kernel_rfl) (.inl rfl) (u:=.bool false) (by kernel_rfl) ?_
   refine cJ (by kernel_rfl) (.inl rfl) (u:=vI x.2) (by kernel_rfl) ?_
   try simp only[Act.put,List.setIfInBounds_toArray,List.set_cons_succ,List.set_cons_zero]
   refine cz (by kernel_rfl) rfl (by kernel_rfl) l2V ?_
   refine tH (by kernel_rfl) rfl (u:=.pointer p) (by kernel_rfl) (by decide) (λ_=>trivial) eN (qn.mono ?_)
   rintro _ w' ⟨rfl,hw'⟩
   rw[hw']
   clear hw' w'
   refine⟨_,rfl,?_⟩
   try simp only[Act.put,List.setIfInBounds_toArray,List.set_cons_succ,List.set_cons_zero]
   by_cases c1:x.2 >=(ts.length:Int)+1
   · refine io (by kernel_rfl) (λc hc=>by cases hc) (by kernel_rfl) (b':=decide (x.2 >=(ts.length:Int)+1)) (by kernel_rfl) (decide_eq_true c1) ?_
     refine io (by kernel_rfl) (λc hc=>by cases hc) (by kernel_rfl) (b':=true) (by kernel_rfl) rfl ?_
     refine qO ?_
     try simp only[Act.put,List.setIfInBounds_toArray,List.set_cons_succ,List.set_cons_zero]
     refine wpIn_cond_true (by kernel_rfl) ?_
     refine rb ?_
     apply wpIn_region_lit
     refine vL (by kernel_rfl) (λc hc=>by cases hc) (by kernel_rfl) (v:=gK.v) (w':=V) (by kernel_rfl) ?_
     refine cv (by kernel_rfl) rfl (by kernel_rfl) (by kernel_rfl) q4 ?_
     refine cv (by kernel_rfl) rfl (by kernel_rfl) (by kernel_rfl) q5 ?_
     try simp only[Act.put,List.setIfInBounds_toArray,List.set_cons_succ,List.set_cons_zero]
     refine qO ?_
     try simp only[Act.put,List.setIfInBounds_toArray,List.set_cons_succ,List.set_cons_zero]
     exact wpIn_ret ⟨KeepsFrom.trans (KeepsFrom.of_grownBy g4 (λj hj=>by cases hj;omega)) (KeepsFrom.of_grownBy g5 (λj hj=>by cases hj;omega)),x,by simp,by omega⟩
   refine io (by kernel_rfl) (λc hc=>by cases hc) (by kernel_rfl) (b':=decide (x.2 >=(ts.length:Int)+1)) (by kernel_rfl) (decide_eq_false c1) ?_
   refine io (by kernel_rfl) (λc hc=>by cases hc) (by kernel_rfl) (b':=false) (by kernel_rfl) rfl ?_
   refine qO ?_
   try simp only[Act.put,List.setIfInBounds_toArray,List.set_cons_succ,List.set_cons_zero]
   refine wpIn_cond_false (by kernel_rfl) ?_
   refine wpIn_skip ?_
   obtain⟨a1,n1,c1',C1,C2,C3,C4⟩:=hCd
   have hAV':fv V.drew p ts:=hAV.below (dj V)
   have l2:(Instr.loadAt aR (.pointer (some ⟨k2,0,none⟩))).run prog V.drew=.ok (.pointer p) V.drew:=(A2V.below (dj V)).load1 gg rfl rfl
   have l6:(Instr.loadAt au (.pointer (some ⟨k6,0,none⟩))).run prog V.drew=.ok (.slice a1 n1 c1') V.drew:=C1.load1 bF rfl rfl
   have qc:=callsIn_wide (n:=6-1-1-1).2 (kZ p ts htl x.2 V.drew hAV')
   have fin:∀Vc,Below V.drew.heap.size V.drew Vc->(Instr.loadAt au (.pointer (some ⟨k6,0,none⟩))).run prog Vc=.ok (.slice a1 n1 c1') Vc/\∃(kx:Nat) (V1:World),
       (Instr.buildSlice au 1 #[(0,vS (ng ts x.2))]).run prog Vc=.ok (.slice (some ⟨kx,0,none⟩) 1 1) V1/\(Instr.loadAt au (.pointer (some ⟨k6,0,none⟩))).run prog V1=.ok (.slice a1 n1 c1') V1/\
       ∃(V2:World) (a2:Option Addr) (n2 c2:Nat),(Builtin.append_ #[au,au] au #[.slice a1 n1 c1',.slice (some ⟨kx,0,none⟩) 1 1]).run prog V1=.ok (.slice a2 n2 c2) V2/\
       ∃V3:World,(Instr.storeAt au (.pointer (some ⟨k6,0,none⟩)) (.slice a2 n2 c2)).run prog V2=.ok () V3/\∀{aa:Act},(Exit.inBlock 1 (ownPostG w7.heap.size (qP λb=>b=k7\/∃o,a=some ⟨b,o,none⟩) (λpre V=>FJ tS aq au k6 w7.heap.size w7 (pre.map λx=>ng ts x.2) V/\pre.length <=1000) (fun(_:Code) (pre:List (Int×Int)) (_:World)=>∃x∈pre,¬ (0 <=x.2/\x.2 <=(ts.length:Int))) (pre++[x]) V)) .normal aa V3:=by
     intro Vc hbc
     have C1c:=C1.below hbc
     have C2c:=C2.below hbc
     have C4c:Below k6 w7 Vc:=C4.trans (hbc.mono (by have:=C4.size;omega))
     obtain⟨V1,hV1⟩:∃V1,V1=Vc.alloc (.cells #[vS (ng ts x.2)] aq):=⟨_,rfl⟩
     have bV:bW Vc V1:=hV1▸af _ _
     obtain⟨V2,a2,n2,c2,q2,V3,q3,C',kf,oth⟩:=BI (gZ _) bF lH (by decide) CG C1c C2c C3 C4c (by omega) C4c.size rfl hV1 (show tS.rep Vc NoB [vS (ng ts x.2)] (ng ts x.2) from⟨rfl,trivial⟩) (by rw[List.length_map];omega)
     refine⟨C1c.load1 bF rfl rfl,_,V1,by rw[hV1];exact G3 _ Vc,(C1c.below bV).load1 bF rfl rfl,V2,a2,n2,c2,q2,V3,q3,?_⟩
     intro aa
     have sV:V.heap.size <=Vc.heap.size:=hbc.size
     refine⟨⟨Nat.le_trans sV kf.size,λk o hk h1 h2=>kf.same k o hk ((hbc.block k (Array.getElem?_eq_some_iff.1 h1).1).trans h1) h2⟩,⟨Nat.le_trans sV kf.size,λb hb hab=>?_⟩,?_,by simp;omega⟩
     · refine(?_:V3.heap[b]? =Vc.heap[b]?).trans (hbc.block b hb)
       rcases hab with rfl|⟨o2,e2⟩
       · exact oth b (by omega) (by omega)
       · have:=hin b o2 e2
         exact oth b (by omega) (by omega)
     · rw[List.map_append];exact C'
   refine GG rfl Lh (by kernel_rfl) ?_
   intro ord hord
   simp only[Lh,List.mem_cons,List.not_mem_nil,or_false]at hord
   rcases hord with rfl|rfl|rfl|rfl|rfl|rfl|rfl|rfl|rfl|rfl
   all_goals simp only[List.filterMap_cons,List.filterMap_nil,List.getElem?_toArray,List.getElem?_cons_zero,List.getElem?_cons_succ]
   · refine cz (by kernel_rfl) rfl (by kernel_rfl) l6 ?_
     refine cz (by kernel_rfl) rfl (by kernel_rfl) l2 ?_
     refine cJ (by kernel_rfl) (.inl rfl) (u:=vI x.2) (by kernel_rfl) ?_
     refine fR (by kernel_rfl) rfl (u:=.pointer p) (v:=vI x.2) (by kernel_rfl) (by kernel_rfl) (by decide) (λ_=>trivial) eT (qc.mono ?_)
     rintro _ Vc ⟨_,rfl,rfl,hbc⟩
     obtain⟨l6c,kx,V1,qb,l6',V2,a2,n2,c2,q2,V3,q3,gfin⟩:=fin Vc hbc
     refine⟨_,rfl,?_⟩
     refine dF (by kernel_rfl) rfl (by kernel_rfl) qb ?_
     refine dR (by kernel_rfl) rfl (by kernel_rfl) (by kernel_rfl) q2 ?_
     exact cv (by kernel_rfl) rfl (by kernel_rfl) (by kernel_rfl) q3 (wpListIn_nil gfin)
   · refine cz (by kernel_rfl) rfl (by kernel_rfl) l6 ?_
     refine cJ (by kernel_rfl) (.inl rfl) (u:=vI x.2) (by kernel_rfl) ?_
     refine cz (by kernel_rfl) rfl (by kernel_rfl) l2 ?_
     refine fR (by kernel_rfl) rfl (u:=.pointer p) (v:=vI x.2) (by kernel_rfl) (by kernel_rfl) (by decide) (λ_=>trivial) eT (qc.mono ?_)
     rintro _ Vc ⟨_,rfl,rfl,hbc⟩
     obtain⟨l6c,kx,V1,qb,l6',V2,a2,n2,c2,q2,V3,q3,gfin⟩:=fin Vc hbc
     refine⟨_,rfl,?_⟩
     refine dF (by kernel_rfl) rfl (by kernel_rfl) qb ?_
     refine dR (by kernel_rfl) rfl (by kernel_rfl) (by kernel_rfl) q2 ?_
     exact cv (by kernel_rfl) rfl (by kernel_rfl) (by kernel_rfl) q3 (wpListIn_nil gfin)
   · refine cz (by kernel_rfl) rfl (by kernel_rfl) l2 ?_
     refine cz (by kernel_rfl) rfl (by kernel_rfl) l6 ?_
     refine cJ (by kernel_rfl) (.inl rfl) (u:=vI x.2) (by kernel_rfl) ?_
     refine fR (by kernel_rfl) rfl (u:=.pointer p) (v:=vI x.2) (by kernel_rfl) (by kernel_rfl) (by decide) (λ_=>trivial) eT (qc.mono ?_)
     rintro _ Vc ⟨_,rfl,rfl,hbc⟩
     obtain⟨l6c,kx,V1,qb,l6',V2,a2,n2,c2,q2,V3,q3,gfin⟩:=fin Vc hbc
     refine⟨_,rfl,?_⟩
     refine dF (by kernel_rfl) rfl (by kernel_rfl) qb ?_
     refine dR (by kernel_rfl) rfl (by kernel_rfl) (by kernel_rfl) q2 ?_
     exact cv (by kernel_rfl) rfl (by kernel_rfl) (by kernel_rfl) q3 (wpListIn_nil gfin)
   · refine cz (by kernel_rfl) rfl (by kernel_rfl) l2 ?_
     refine cJ (by kernel_rfl) (.inl rfl) (u:=vI x.2) (by kernel_rfl) ?_
     refine cz (by kernel_rfl) rfl (by kernel_rfl) l6 ?_
     refine fR (by kernel_rfl) rfl (u:=.pointer p) (v:=vI x.2) (by kernel_rfl) (by kernel_rfl) (by decide) (λ_=>trivial) eT (qc.mono ?_)
     rintro _ Vc ⟨_,rfl,rfl,hbc⟩
     obtain⟨l6c,kx,V1,qb,l6',V2,a2,n2,c2,q2,V3,q3,gfin⟩:=fin Vc hbc
     refine⟨_,rfl,?_⟩
     refine dF (by kernel_rfl) rfl (by kernel_rfl) qb ?_
     refine dR (by kernel_rfl) rfl (by kernel_rfl) (by kernel_rfl) q2 ?_
     exact cv (by kernel_rfl) rfl (by kernel_rfl) (by kernel_rfl) q3 (wpListIn_nil gfin)
   · refine cz (by kernel_rfl) rfl (by kernel_rfl) l2 ?_
     refine cJ (by kernel_rfl) (.inl rfl) (u:=vI x.2) (by kernel_rfl) ?_
     refine fR (by kernel_rfl) rfl (u:=.pointer p) (v:=vI x.2) (by kernel_rfl) (by kernel_rfl) (by decide) (λ_=>trivial) eT (qc.mono ?_)
     rintro _ Vc ⟨_,rfl,rfl,hbc⟩
     obtain⟨l6c,kx,V1,qb,l6',V2,a2,n2,c2,q2,V3,q3,gfin⟩:=fin Vc hbc
     refine⟨_,rfl,?_⟩
     refine cz (by kernel_rfl) rfl (by kernel_rfl) l6c ?_
     refine dF (by kernel_rfl) rfl (by kernel_rfl) qb ?_
     refine dR (by kernel_rfl) rfl (by kernel_rfl) (by kernel_rfl) q2 ?_
     exact cv (by kernel_rfl) rfl (by kernel_rfl) (by kernel_rfl) q3 (wpListIn_nil gfin)
   · refine cz (by kernel_rfl) rfl (by kernel_rfl) l2 ?_
     refine cJ (by kernel_rfl) (.inl rfl) (u:=vI x.2) (by kernel_rfl) ?_
     refine fR (by kernel_rfl) rfl (u:=.pointer p) (v:=vI x.2) (by kernel_rfl) (by kernel_rfl) (by decide) (λ_=>trivial) eT (qc.mono ?_)
     rintro _ Vc ⟨_,rfl,rfl,hbc⟩
     obtain⟨l6c,kx,V1,qb,l6',V2,a2,n2,c2,q2,V3,q3,gfin⟩:=fin Vc hbc
     refine⟨_,rfl,?_⟩
     refine dF (by kernel_rfl) rfl (by kernel_rfl) qb ?_
     refine cz (by kernel_rfl) rfl (by kernel_rfl) l6' ?_
     refine dR (by kernel_rfl) rfl (by kernel_rfl) (by kernel_rfl) q2 ?_
     exact cv (by kernel_rfl) rfl (by kernel_rfl) (by kernel_rfl) q3 (wpListIn_nil gfin)
   · refine cJ (by kernel_rfl) (.inl rfl) (u:=vI x.2) (by kernel_rfl) ?_
     refine cz (by kernel_rfl) rfl (by kernel_rfl) l6 ?_
     refine cz (by kernel_rfl) rfl (by kernel_rfl) l2 ?_
     refine fR (by kernel_rfl) rfl (u:=.pointer p) (v:=vI x.2) (by kernel_rfl) (by kernel_rfl) (by decide) (λ_=>trivial) eT (qc.mono ?_)
     rintro _ Vc ⟨_,rfl,rfl,hbc⟩
     obtain⟨l6c,kx,V1,qb,l6',V2,a2,n2,c2,q2,V3,q3,gfin⟩:=fin Vc hbc
     refine⟨_,rfl,?_⟩
     refine dF (by kernel_rfl) rfl (by kernel_rfl) qb ?_
     refine dR (by kernel_rfl) rfl (by kernel_rfl) (by kernel_rfl) q2 ?_
     exact cv (by kernel_rfl) rfl (by kernel_rfl) (by kernel_rfl) q3 (wpListIn_nil gfin)
   · refine cJ (by kernel_rfl) (.inl rfl) (u:=vI x.2) (by kernel_rfl) ?_
     refine cz (by kernel_rfl) rfl (by kernel_rfl) l2 ?_
     refine cz (by kernel_rfl) rfl (by kernel_rfl) l6 ?_
     refine fR (by kernel_rfl) rfl (u:=.pointer p) (v:=vI x.2) (by kernel_rfl) (by kernel_rfl) (by decide) (λ_=>trivial) eT (qc.mono ?_)
     rintro _ Vc ⟨_,rfl,rfl,hbc⟩
     obtain⟨l6c,kx,V1,qb,l6',V2,a2,n2,c2,q2,V3,q3,gfin⟩:=fin Vc hbc
     refine⟨_,rfl,?_⟩
     refine dF (by kernel_rfl) rfl (by kernel_rfl) qb ?_
     refine dR (by kernel_rfl) rfl (by kernel_rfl) (by kernel_rfl) q2 ?_
     exact cv (by kernel_rfl) rfl (by kernel_rfl) (by kernel_rfl) q3 (wpListIn_nil gfin)
   · refine cJ (by kernel_rfl) (.inl rfl) (u:=vI x.2) (by kernel_rfl) ?_
     refine cz (by kernel_rfl) rfl (by kernel_rfl) l2 ?_
     refine fR (by kernel_rfl) rfl (u:=.pointer p) (v:=vI x.2) (by kernel_rfl) (by kernel_rfl) (by decide) (λ_=>trivial) eT (qc.mono ?_)
     rintro _ Vc ⟨_,rfl,rfl,hbc⟩
     obtain⟨l6c,kx,V1,qb,l6',V2,a2,n2,c2,q2,V3,q3,gfin⟩:=fin Vc hbc
     refine⟨_,rfl,?_⟩
     refine cz (by kernel_rfl) rfl (by kernel_rfl) l6c ?_
     refine dF (by kernel_rfl) rfl (by kernel_rfl) qb ?_
     refine dR (by kernel_rfl) rfl (by kernel_rfl) (by kernel_rfl) q2 ?_
     exact cv (by kernel_rfl) rfl (by kernel_rfl) (by kernel_rfl) q3 (wpListIn_nil gfin)
   · refine cJ (by kernel_rfl) (.inl rfl) (u:=vI x.2) (by kernel_rfl) ?_
     refine cz (by kernel_rfl) rfl (by kernel_rfl) l2 ?_
     refine fR (by kernel_rfl) rfl (u:=.pointer p) (v:=vI x.2) (by kernel_rfl) (by kernel_rfl) (by decide) (λ_=>trivial) eT (qc.mono ?_)
     rintro _ Vc ⟨_,rfl,rfl,hbc⟩
     obtain⟨l6c,kx,V1,qb,l6',V2,a2,n2,c2,q2,V3,q3,gfin⟩:=fin Vc hbc
     refine⟨_,rfl,?_⟩
     refine dF (by kernel_rfl) rfl (by kernel_rfl) qb ?_
     refine cz (by kernel_rfl) rfl (by kernel_rfl) l6' ?_
     refine dR (by kernel_rfl) rfl (by kernel_rfl) (by kernel_rfl) q2 ?_
     exact cv (by kernel_rfl) rfl (by kernel_rfl) (by kernel_rfl) q3 (wpListIn_nil gfin)
 case done=>
   rintro D xs V hD hxs ⟨⟨a3,n3,c3,D1,D2,D3,D4⟩,_⟩ hK
   have eL:xs.map (λx=>ng ts x.2)=(txs ts ws).reverse:=by
     unfold txs
     rw[<- List.map_reverse,<- show xs.map Prod.snd=ws.reverse from hxs,List.map_map];rfl
   rw[eL]at D2
   have hwk:w.heap.size <=k6:=by omega
   have BV:bW w V:=B7.trans (D4.mono hwk)
   have A4V:ak V k4 ah gK.cells:=A4'.block (D4.block k4 (by omega))
   have A5V:ak V k5 bR [.bool false]:=A5'.block (D4.block k5 (by omega))
   have DV:D<V.heap.size:=(Array.getElem?_eq_some_iff.1 hK).1
   obtain⟨L,hL⟩:∃L,L=(txs ts ws).reverse:=⟨_,rfl⟩
   rw[<- hL]at D2
   have hLl:L.length <=1000:=by rw[hL,List.length_reverse];unfold txs;rw[List.length_map];exact hwl
   have hLx:∀x∈L,x.length <=1000:=λx hx=>hxl x (by rw[hL]at hx;simpa using hx)
   have n3e:n3=L.length:=D2.len
   subst n3e
   have back:∀{tm:Array Value} {V':World} {g:Hst} {b:Bool} {w4 w5:World},tm.getD 4 undef=.pointer (some ⟨k4,0,none⟩)->tm.getD 5 undef=.pointer (some ⟨k5,0,none⟩)->g.ok->bW V V'->V'.grownBy w4 (some k4)->ak w4 k4 ah g.cells->w4.grownBy w5 (some k5)->ak w5 k5 bR [.bool b]->
       (((cN (txs ts ws)).getD gK).v=g.v/\(cN (txs ts ws)).isSome=b)->
       LeavesInM Fence.wide 6 prog Tryz.f28 tm (λe w'=>e=.returned (.tuple #[((cN (txs ts ws)).getD gK).v,.bool (cN (txs ts ws)).isSome])/\bW w w') [{ target:=.collected D,args:= #[] }] .returning w5:=by
     intro tm V' g b w4 w5 t4 t5 og hbV g4 h4 g5 h5 he
     have s4:V'.heap.size <=w4.heap.size:=g4.size
     have hKD:w5.heap[D]? =some (.deferred (some [])):=by
       have h1:=hbV.size
       rw[g5.block D (by omega) (λe=>by cases e;omega),g4.block D (by omega) (λe=>by cases e;omega),hbV.block D DV];exact hK
     have gD:=grownBy_putObj' w5 D (.deferred none)
     have h4':ak (w5.putObj D (.deferred none)) k4 ah g.cells:=(h4.grown g5 (λe=>by cases e;omega)).grown gD (λe=>by cases e;omega)
     have h5':ak (w5.putObj D (.deferred none)) k5 bR [.bool b]:=h5.grown gD (λe=>by cases e;omega)
     have B5:bW w w5:=by
       have e1:=ab BV hbV BV.size
       refine(e1.grown g4 e1.size λx e=>by cases e;omega).grown g5 ?_ λx e=>by cases e;omega
       exact Nat.le_trans e1.size g4.size
     refine⟨by simp,.inl ⟨_,_,rfl,run_takeDeferred hKD,?_⟩⟩
     refine⟨_,yp (v:=g.v) (v2:=.bool b) ?_ ?_,?_,B5.grown gD B5.size λx e=>by cases e;omega⟩
     · rw[t4];exact ak.res (aL.load0 h4' (Hst.len og))
     · rw[t5];exact ak.res (h5'.load1 di rfl rfl)
     · rw[he.1,he.2]
   have none_:∀{V':World},bW V V'->cN (txs ts ws)=none->
       ∃w4 w5,(Instr.storeAt ah (.pointer (some ⟨k4,0,none⟩)) gK.v).run prog V'=.ok () w4/\(Instr.storeAt bR (.pointer (some ⟨k5,0,none⟩)) (.bool false)).run prog w4=.ok () w5/\
       ∀{tm:Array Value},tm.getD 4 undef=.pointer (some ⟨k4,0,none⟩)->tm.getD 5 undef=.pointer (some ⟨k5,0,none⟩)->LeavesInM Fence.wide 6 prog Tryz.f28 tm (λe w'=>e=.returned (.tuple #[((cN (txs ts ws)).getD gK).v,.bool (cN (txs ts ws)).isSome])/\bW w w') [{ target:=.collected D,args:= #[] }] .returning w5:=by
     intro V' hbV hno
     obtain⟨w4,q4,h4,g4⟩:=aL.store0 (P:=prog) (cs:=gK.cells) rfl (Hst.one _) (A4V.below hbV) rfl
     obtain⟨w5,q5,h5,g5⟩:=sw (P:=prog) qL ((A5V.below hbV).grown g4 (λe=>by cases e;omega)) false
     exact⟨w4,w5,q4,q5,λt4 t5=>back (g:=gK) t4 t5 rfl hbV g4 h4 g5 h5 ⟨by rw[hno];rfl,by rw[hno];rfl⟩⟩
   have some_:∀{V':World} {g:Hst},bW V V'->g.ok->cN (txs ts ws)=some g->
       ∃w4 w5,(Instr.storeAt ah (.pointer (some ⟨k4,0,none⟩)) g.v).run prog V'=.ok () w4/\(Instr.storeAt bR (.pointer (some ⟨k5,0,none⟩)) (.bool true)).run prog w4=.ok () w5/\
       ∀{tm:Array Value},tm.getD 4 undef=.pointer (some ⟨k4,0,none⟩)->tm.getD 5 undef=.pointer (some ⟨k5,0,none⟩)->LeavesInM Fence.wide 6 prog Tryz.f28 tm (λe w'=>e=.returned (.tuple #[((cN (txs ts ws)).getD gK).v,.bool (cN (txs ts ws)).isSome])/\bW w w') [{ target:=.collected D,args:= #[] }] .returning w5:=by
     intro V' g hbV og hsm
     obtain⟨w4,q4,h4,g4⟩:=aL.store0 (P:=prog) (cs:=g.cells) (Hst.len og) (Hst.one _) (A4V.below hbV) rfl
     obtain⟨w5,q5,h5,g5⟩:=sw (P:=prog) qL ((A5V.below hbV).grown g4 (λe=>by cases e;omega)) true
     exact⟨w4,w5,q4,q5,λt4 t5=>back (g:=g) t4 t5 og hbV g4 h4 g5 h5 ⟨by rw[hsm];rfl,by rw[hsm];rfl⟩⟩
   refine J3 (λa' W=>∃(x31 x32 x33 x34 x35 x36 x37 x38 x39:Value) (b:Bool),a'= { tmps:= #[.pointer p,.slice a ws.length c,.pointer (some ⟨k2,0,none⟩),undef,.pointer (some ⟨k4,0,none⟩),.pointer (some ⟨k5,0,none⟩),.pointer (some ⟨k6,0,none⟩),undef,undef,.bool b,undef,undef,.slice a ws.length c,.func (.func 114) #[] #[.pointer (some ⟨k7,0,none⟩)],undef,undef,undef,undef,undef,undef,undef,undef,undef,undef,undef,undef,undef,undef,undef,undef,undef,x31,x32,x33,x34,x35,x36,x37,x38,x39,undef,undef,undef,undef,undef,undef,undef,undef,undef,undef,undef,undef,undef,undef,undef,undef,undef,undef,undef,undef,undef,undef,undef,undef,undef,undef],defers:=[{ target:=.collected D,args:= #[] }] } /\b=(decide (L.length=1)&&L.all iX)/\bW V W) ?_ ?_
   · apply wpIn_region_lit
     have l6:(Instr.loadAt au (.pointer (some ⟨k6,0,none⟩))).run prog V=.ok (.slice a3 L.length c3) V:=D1.load1 bF rfl rfl
     refine cz (by kernel_rfl) rfl (by kernel_rfl) l6 ?_
     refine vL (by kernel_rfl) (λc hc=>by cases hc) (by kernel_rfl) (v:=vI ((L.length:Nat):Int)) (w':=V) (by kernel_rfl) ?_
     by_cases cc:L.length=1
     · obtain⟨x,hx⟩:=List.length_eq_one_iff.1 cc
       clear hL
       subst hx
       obtain⟨g,rfl⟩:∃g,a3=some ⟨g,0,none⟩:=by
         rcases D2.2.2.2 with⟨_,_,h⟩|⟨g,_,_,h,_⟩
         · cases h
         · exact⟨g,h⟩
       obtain⟨v,qv,hv⟩:=D2.all.load1 (P:=prog) (i:=0) aB rfl rfl (by simp)
       obtain⟨rfl,_⟩:=kh hv
       refine io (by kernel_rfl) (λc hc=>by cases hc) (by kernel_rfl) (b':=true) (by kernel_rfl) rfl ?_
       try simp only[Act.put,List.setIfInBounds_toArray,List.set_cons_succ,List.set_cons_zero]
       refine cJ (by kernel_rfl) (.inl rfl) (u:=.bool true) (by kernel_rfl) ?_
       refine cz (by kernel_rfl) rfl (by kernel_rfl) l6 ?_
       refine vL (by kernel_rfl) (λc hc=>by cases hc) (by kernel_rfl) (v:=.pointer (am (some ⟨g,0,none⟩) 0 1)) (w':=V) (by kernel_rfl) ?_
       try simp only[Act.put,List.setIfInBounds_toArray,List.set_cons_succ,List.set_cons_zero]
       refine cz (by kernel_rfl) rfl (by kernel_rfl) qv ?_
       refine tH (by kernel_rfl) rfl (u:=vS x) (by kernel_rfl) (by decide) hF eA ((callsIn_wide.2 (kG x (by have:=hLx x (by simp);omega) V (he.step BV))).mono ?_)
       rintro _ Vw ⟨_,rfl,rfl,hbw⟩
       refine⟨_,rfl,?_⟩
       try simp only[Act.put,List.setIfInBounds_toArray,List.set_cons_succ,List.set_cons_zero]
       refine vL (by kernel_rfl) (λc hc=>by cases hc) (by kernel_rfl) (v:=.bool (iX x)) (w':=Vw) (by kernel_rfl) ?_
       refine cJ (by kernel_rfl) (.inr rfl) (u:=.bool (iX x)) (by kernel_rfl) ?_
       apply K7
       exact⟨.slice (some ⟨g,0,none⟩) [x].length c3,vI (([x].length:Nat):Int),.bool true,.bool true,.slice (some ⟨g,0,none⟩) [x].length c3,.pointer (am (some ⟨g,0,none⟩) 0 1),vS x,.bool (iX x),.bool (iX x),iX x,(by kernel_rfl),by simp,hbw⟩
     · refine io (by kernel_rfl) (λc hc=>by cases hc) (by kernel_rfl) (b':=((L.length:Nat):Int)==1) (b:=false) (by kernel_rfl) (by rw[beq_eq_false_iff_ne];omega) ?_
       try simp only[Act.put,List.setIfInBounds_toArray,List.set_cons_succ,List.set_cons_zero]
       refine cJ (by kernel_rfl) (.inl rfl) (u:=.bool false) (by kernel_rfl) ?_
       refine gH (by kernel_rfl) hF ?_
       refine gH (by kernel_rfl) hF ?_
       try simp only[Act.put,List.setIfInBounds_toArray,List.set_cons_succ,List.set_cons_zero]
       refine gH (by kernel_rfl) hF ?_
       refine gH (by kernel_rfl) hF ?_
       refine io (by kernel_rfl) (λc hc=>by cases hc) (by kernel_rfl) (b':=false) (by kernel_rfl) rfl ?_
       try simp only[Act.put,List.setIfInBounds_toArray,List.set_cons_succ,List.set_cons_zero]
       refine cJ (by kernel_rfl) (.inr rfl) (u:=.bool false) (by kernel_rfl) ?_
       apply K7
       exact⟨.slice a3 L.length c3,vI ((L.length:Nat):Int),.bool false,.bool false,undef,undef,undef,undef,.bool false,false,(by kernel_rfl),by simp[cc],Below.refl _ _⟩
   · rintro a' W ⟨x31,x32,x33,x34,x35,x36,x37,x38,x39,b,rfl,hb,BW⟩
     have B0W:bW w W:=ab BV BW BV.size
     refine J3 (λa' W=>∃(x31 x32 x33 x34 x35 x36 x37 x38 x39 x40 x41 x42 x43 x44 x45:Value),a'= { tmps:= #[.pointer p,.slice a ws.length c,.pointer (some ⟨k2,0,none⟩),undef,.pointer (some ⟨k4,0,none⟩),.pointer (some ⟨k5,0,none⟩),.pointer (some ⟨k6,0,none⟩),undef,undef,.bool b,undef,undef,.slice a ws.length c,.func (.func 114) #[] #[.pointer (some ⟨k7,0,none⟩)],undef,undef,undef,undef,undef,undef,undef,undef,undef,undef,undef,undef,undef,undef,undef,undef,undef,x31,x32,x33,x34,x35,x36,x37,x38,x39,x40,x41,x42,x43,x44,x45,undef,undef,undef,undef,undef,undef,undef,undef,undef,undef,undef,undef,undef,undef,undef,undef,undef,undef,undef,undef],defers:=[{ target:=.collected D,args:= #[] }] } /\(b=true\/L.all aW=true)/\bW V W) ?_ ?_
     · have l6:(Instr.loadAt au (.pointer (some ⟨k6,0,none⟩))).run prog W=.ok (.slice a3 L.length c3) W:=(D1.below BW).load1 bF rfl rfl
       refine rb ?_
       apply wpIn_region_lit
       refine cJ (by kernel_rfl) (.inl rfl) (u:=.bool b) (by kernel_rfl) ?_
       cases b with
       | true=>
         refine io (by kernel_rfl) (λc hc=>by cases hc) (by kernel_rfl) (b':=false) (by kernel_rfl) rfl ?_
         refine cJ (by kernel_rfl) (.inl rfl) (u:=.bool false) (by kernel_rfl) ?_
         try simp only[Act.put,List.setIfInBounds_toArray,List.set_cons_succ,List.set_cons_zero]
         refine gH (by kernel_rfl) hF ?_
         refine gH (by kernel_rfl) hF ?_
         refine io (by kernel_rfl) (λc hc=>by cases hc) (by kernel_rfl) (b':=false) (by kernel_rfl) rfl ?_
         try simp only[Act.put,List.setIfInBounds_toArray,List.set_cons_succ,List.set_cons_zero]
         refine qO ?_
         try simp only[Act.put,List.setIfInBounds_toArray,List.set_cons_succ,List.set_cons_zero]
         refine wpIn_cond_false (by kernel_rfl) ?_
         refine wpIn_skip ?_
         exact⟨x31,x32,x33,x34,x35,x36,x37,x38,x39,.bool true,.bool false,.bool false,undef,undef,.bool false,(by kernel_rfl),by first|exact .inl rfl|simp,BW⟩
       | false=>
         refine io (by kernel_rfl) (λc hc=>by cases hc) (by kernel_rfl) (b':=true) (by kernel_rfl) rfl ?_
         refine cJ (by kernel_rfl) (.inl rfl) (u:=.bool true) (by kernel_rfl) ?_
         refine cz (by kernel_rfl) rfl (by kernel_rfl) l6 ?_
         try simp only[Act.put,List.setIfInBounds_toArray,List.set_cons_succ,List.set_cons_zero]
         refine fR (by kernel_rfl) rfl (u:=.slice a3 L.length c3) (v:=.func (.func 64) #[] #[]) (by kernel_rfl) (by kernel_rfl) (by decide) hF eC ((callsIn_wide.2 (zU (he.step B0W) (D2.below BW).all (λx hx=>by have:=hLx x hx;omega))).mono ?_)
         rintro _ Wc ⟨_,rfl,rfl,hbc⟩
         refine⟨_,rfl,?_⟩
         have BWc:=ab BW hbc BW.size
         rcases Bool.eq_false_or_eq_true (L.all aW)with hall|hall
         rotate_left
         ·
           obtain⟨w4,w5,q4,q5,hl⟩:=none_ BWc (GL hL hb.symm hall)
           refine io (by kernel_rfl) (λc hc=>by cases hc) (by kernel_rfl) (b':= !L.all aW) (b:=true) (by kernel_rfl) (by simp[hall]) ?_
           refine qO ?_
           try simp only[Act.put,List.setIfInBounds_toArray,List.set_cons_succ,List.set_cons_zero]
           refine wpIn_cond_true (by kernel_rfl) ?_
           refine rb ?_
           apply wpIn_region_lit
           refine vL (by kernel_rfl) (λc hc=>by cases hc) (by kernel_rfl) (v:=gK.v) (w':=Wc) (by kernel_rfl) ?_
           refine cv (by kernel_rfl) rfl (by kernel_rfl) (by kernel_rfl) q4 ?_
           refine cv (by kernel_rfl) rfl (by kernel_rfl) (by kernel_rfl) q5 ?_
           try simp only[Act.put,List.setIfInBounds_toArray,List.set_cons_succ,List.set_cons_zero]
           refine qO ?_
           try simp only[Act.put,List.setIfInBounds_toArray,List.set_cons_succ,List.set_cons_zero]
           exact wpIn_ret (hl (by kernel_rfl) (by kernel_rfl))
         ·
           refine io (by kernel_rfl) (λc hc=>by cases hc) (by kernel_rfl) (b':= !L.all aW) (b:=false) (by kernel_rfl) (by simp[hall]) ?_
           refine qO ?_
           try simp only[Act.put,List.setIfInBounds_toArray,List.set_cons_succ,List.set_cons_zero]
           refine wpIn_cond_false (by kernel_rfl) ?_
           refine wpIn_skip ?_
           exact⟨x31,x32,x33,x34,x35,x36,x37,x38,x39,.bool false,.bool true,.bool true,.slice a3 L.length c3,.bool (!L.all aW),.bool false,(by kernel_rfl),by first|exact .inr hall|simp[hall],BWc⟩
     · rintro a' W ⟨x31,x32,x33,x34,x35,x36,x37,x38,x39,x40,x41,x42,x43,x44,x45,rfl,hbl,BW⟩
       have B0W:bW w W:=ab BV BW BV.size
       have l6:(Instr.loadAt au (.pointer (some ⟨k6,0,none⟩))).run prog W=.ok (.slice a3 L.length c3) W:=(D1.below BW).load1 bF rfl rfl
       have hJ:(Lib.join L [46]).length <=1001000:=IF hLl hLx
       refine rb ?_
       apply wpIn_region_lit
       refine cz (by kernel_rfl) rfl (by kernel_rfl) l6 ?_
       refine fR (by kernel_rfl) rfl (u:=.slice a3 L.length c3) (v:=vS [46]) (by kernel_rfl) (by kernel_rfl) (by decide) hF eJ ((callsIn_wide.2 (Ao (D2.below BW).all [46] (by omega) (by omega))).mono ?_)
       rintro _ Wj ⟨_,rfl,rfl,hbj⟩
       refine⟨_,rfl,?_⟩
       try simp only[Act.put,List.setIfInBounds_toArray,List.set_cons_succ,List.set_cons_zero]
       have BWj:=ab BW hbj BW.size
       have B0j:=ab BV BWj BV.size
       refine tH (by kernel_rfl) rfl (u:=vS (Lib.join L [46])) (by kernel_rfl) (by decide) hF eP ((callsIn_wide.2 (jB (Lib.join L [46]) (by omega) Wj (he.step B0j))).mono ?_)
       rintro _ Wp ⟨_,rfl,rfl,hbp⟩
       have BWp:=ab BWj hbp BWj.size
       obtain⟨Wq,hWq⟩:∃Wq,Wq=Wp.alloc (.cells gK.cells.toArray ah):=⟨_,rfl⟩
       obtain⟨k10,hk10⟩:∃k,k=Wp.heap.size:=⟨_,rfl⟩
       have bq:bW Wp Wq:=hWq▸af Wp _
       have A10:ak Wq k10 ah gK.cells:=ak.new hk10 hWq
       refine⟨_,rfl,?_⟩
       cases hv:cL (Lib.join L [46])with
       | none=>
         obtain⟨Wr,q10,A10',g10⟩:=aL.store0 (P:=prog) (cs:=gK.cells) rfl (Hst.one _) A10 rfl
         have BWr:bW V Wr:=ab BWp (Below.put bq g10 (by omega)) BWp.size
         obtain⟨w4,w5,q4,q5,hl⟩:=none_ BWr (Fi hL (b:=b) hb hbl hv)
         refine cJ (by kernel_rfl) (.inl rfl) (u:=.tuple #[gK.v,vI 31]) (by kernel_rfl) ?_
         refine vL (by kernel_rfl) (λc hc=>by cases hc) (by kernel_rfl) (v:=gK.v) (w':=Wp) (by kernel_rfl) ?_
         try simp only[Act.put,List.setIfInBounds_toArray,List.set_cons_succ,List.set_cons_zero]
         refine vL (by kernel_rfl) (λc hc=>by cases hc) (by kernel_rfl) (v:=vI 31) (w':=Wp) (by kernel_rfl) ?_
         refine zc (by kernel_rfl) rfl (v:=.pointer (some ⟨k10,0,none⟩)) (w':=Wq) (by rw[hk10,hWq];kernel_rfl) ?_
         refine cv (by kernel_rfl) rfl (by kernel_rfl) (by kernel_rfl) q10 ?_
         try simp only[Act.put,List.setIfInBounds_toArray,List.set_cons_succ,List.set_cons_zero]
         refine cJ (by kernel_rfl) (.inr rfl) (u:=vI 31) (by kernel_rfl) ?_
         refine qO ?_
         try simp only[Act.put,List.setIfInBounds_toArray,List.set_cons_succ,List.set_cons_zero]
         refine rb ?_
         refine rb ?_
         apply wpIn_region_lit
         refine cJ (by kernel_rfl) (.inl rfl) (u:=vI 31) (by kernel_rfl) ?_
         refine io (by kernel_rfl) (λc hc=>by cases hc) (by kernel_rfl) (b':=true) (by kernel_rfl) rfl ?_
         refine cJ (by kernel_rfl) (.inl rfl) (u:=.bool true) (by kernel_rfl) ?_
         try simp only[Act.put,List.setIfInBounds_toArray,List.set_cons_succ,List.set_cons_zero]
         refine gH (by kernel_rfl) hF ?_
         refine gH (by kernel_rfl) hF ?_
         refine gH (by kernel_rfl) hF ?_
         try simp only[Act.put,List.setIfInBounds_toArray,List.set_cons_succ,List.set_cons_zero]
         refine gH (by kernel_rfl) hF ?_
         refine gH (by kernel_rfl) hF ?_
         refine gH (by kernel_rfl) hF ?_
         try simp only[Act.put,List.setIfInBounds_toArray,List.set_cons_succ,List.set_cons_zero]
         refine gH (by kernel_rfl) hF ?_
         refine io (by kernel_rfl) (λc hc=>by cases hc) (by kernel_rfl) (b':=true) (by kernel_rfl) rfl ?_
         refine qO ?_
         try simp only[Act.put,List.setIfInBounds_toArray,List.set_cons_succ,List.set_cons_zero]
         refine wpIn_cond_true (by kernel_rfl) ?_
         refine rb ?_
         apply wpIn_region_lit
         refine vL (by kernel_rfl) (λc hc=>by cases hc) (by kernel_rfl) (v:=gK.v) (w':=Wr) (by kernel_rfl) ?_
         refine cv (by kernel_rfl) rfl (by kernel_rfl) (by kernel_rfl) q4 ?_
         refine cv (by kernel_rfl) rfl (by kernel_rfl) (by kernel_rfl) q5 ?_
         try simp only[Act.put,List.setIfInBounds_toArray,List.set_cons_succ,List.set_cons_zero]
         refine qO ?_
         try simp only[Act.put,List.setIfInBounds_toArray,List.set_cons_succ,List.set_cons_zero]
         exact wpIn_ret (hl (by kernel_rfl) (by kernel_rfl))
       | some h=>
         have og:=fm hv
         obtain⟨Wr,q10,A10',g10⟩:=aL.store0 (P:=prog) (cs:=h.cells) (Hst.len og) (Hst.one _) A10 rfl
         have BWr:bW V Wr:=ab BWp (Below.put bq g10 (by omega)) BWp.size
         have l10:(Instr.loadAt ah (.pointer (some ⟨k10,0,none⟩))).run prog Wr=.ok h.v Wr:=aL.load0 A10' (Hst.len og)
         refine cJ (by kernel_rfl) (.inl rfl) (u:=.tuple #[h.v,vI 0]) (by kernel_rfl) ?_
         refine vL (by kernel_rfl) (λc hc=>by cases hc) (by kernel_rfl) (v:=h.v) (w':=Wp) (by kernel_rfl) ?_
         refine vL (by kernel_rfl) (λc hc=>by cases hc) (by kernel_rfl) (v:=vI 0) (w':=Wp) (by kernel_rfl) ?_
         try simp only[Act.put,List.setIfInBounds_toArray,List.set_cons_succ,List.set_cons_zero]
         refine zc (by kernel_rfl) rfl (v:=.pointer (some ⟨k10,0,none⟩)) (w':=Wq) (by rw[hk10,hWq];kernel_rfl) ?_
         refine cv (by kernel_rfl) rfl (by kernel_rfl) (by kernel_rfl) q10 ?_
         refine cJ (by kernel_rfl) (.inr rfl) (u:=vI 0) (by kernel_rfl) ?_
         try simp only[Act.put,List.setIfInBounds_toArray,List.set_cons_succ,List.set_cons_zero]
         refine qO ?_
         try simp only[Act.put,List.setIfInBounds_toArray,List.set_cons_succ,List.set_cons_zero]
         refine rb ?_
         refine rb ?_
         apply wpIn_region_lit
         refine cJ (by kernel_rfl) (.inl rfl) (u:=vI 0) (by kernel_rfl) ?_
         refine io (by kernel_rfl) (λc hc=>by cases hc) (by kernel_rfl) (b':=false) (by kernel_rfl) rfl ?_
         refine cJ (by kernel_rfl) (.inl rfl) (u:=.bool false) (by kernel_rfl) ?_
         try simp only[Act.put,List.setIfInBounds_toArray,List.set_cons_succ,List.set_cons_zero]
         refine cJ (by kernel_rfl) (.inl rfl) (u:=.bool b) (by kernel_rfl) ?_
         cases b with
         | true=>
           obtain⟨w4,w5,q4,q5,hl⟩:=some_ BWr og ((tK hL hb.symm).trans hv)
           refine io (by kernel_rfl) (λc hc=>by cases hc) (by kernel_rfl) (b':=false) (by kernel_rfl) rfl ?_
           refine cJ (by kernel_rfl) (.inl rfl) (u:=.bool false) (by kernel_rfl) ?_
           try simp only[Act.put,List.setIfInBounds_toArray,List.set_cons_succ,List.set_cons_zero]
           refine gH (by kernel_rfl) hF ?_
           refine gH (by kernel_rfl) hF ?_
           refine gH (by kernel_rfl) hF ?_
           try simp only[Act.put,List.setIfInBounds_toArray,List.set_cons_succ,List.set_cons_zero]
           refine io (by kernel_rfl) (λc hc=>by cases hc) (by kernel_rfl) (b':=false) (by kernel_rfl) rfl ?_
           refine io (by kernel_rfl) (λc hc=>by cases hc) (by kernel_rfl) (b':=false) (by kernel_rfl) rfl ?_
           refine qO ?_
           try simp only[Act.put,List.setIfInBounds_toArray,List.set_cons_succ,List.set_cons_zero]
           refine wpIn_cond_false (by kernel_rfl) ?_
           refine wpIn_skip ?_
           refine rb ?_
           apply wpIn_region_lit
           refine cz (by kernel_rfl) rfl (by kernel_rfl) l10 ?_
           refine cv (by kernel_rfl) rfl (by kernel_rfl) (by kernel_rfl) q4 ?_
           refine cv (by kernel_rfl) rfl (by kernel_rfl) (by kernel_rfl) q5 ?_
           try simp only[Act.put,List.setIfInBounds_toArray,List.set_cons_succ,List.set_cons_zero]
           refine qO ?_
           try simp only[Act.put,List.setIfInBounds_toArray,List.set_cons_succ,List.set_cons_zero]
           exact wpIn_ret (hl (by kernel_rfl) (by kernel_rfl))
         | false=>
           have hall:L.all aW=true:=hbl.resolve_left (by simp)
           have eo:=BZ hL hb.symm hall hv
           refine io (by kernel_rfl) (λc hc=>by cases hc) (by kernel_rfl) (b':=true) (by kernel_rfl) rfl ?_
           refine cJ (by kernel_rfl) (.inl rfl) (u:=.bool true) (by kernel_rfl) ?_
           refine vL (by kernel_rfl) (λc hc=>by cases hc) (by kernel_rfl) (v:=.pointer (some ⟨k10,0,none⟩)) (w':=Wr) (by kernel_rfl) ?_
           try simp only[Act.put,List.setIfInBounds_toArray,List.set_cons_succ,List.set_cons_zero]
           refine cz (by kernel_rfl) rfl (by kernel_rfl) (A10'.load1 (i:=0) aI rfl (v:=vI h.kind) rfl) ?_
           by_cases hk:h.kind=1
           · rw[if_pos hk]at eo
             obtain⟨w4,w5,q4,q5,hl⟩:=some_ BWr og eo
             refine io (by kernel_rfl) (λc hc=>by cases hc) (by kernel_rfl) (b':=h.kind !=1) (b:=false) (by kernel_rfl) (by simp[hk]) ?_
             refine io (by kernel_rfl) (λc hc=>by cases hc) (by kernel_rfl) (b':=false) (by kernel_rfl) rfl ?_
             try simp only[Act.put,List.setIfInBounds_toArray,List.set_cons_succ,List.set_cons_zero]
             refine io (by kernel_rfl) (λc hc=>by cases hc) (by kernel_rfl) (b':=false) (by kernel_rfl) rfl ?_
             refine qO ?_
             try simp only[Act.put,List.setIfInBounds_toArray,List.set_cons_succ,List.set_cons_zero]
             refine wpIn_cond_false (by kernel_rfl) ?_
             refine wpIn_skip ?_
             refine rb ?_
             apply wpIn_region_lit
             refine cz (by kernel_rfl) rfl (by kernel_rfl) l10 ?_
             refine cv (by kernel_rfl) rfl (by kernel_rfl) (by kernel_rfl) q4 ?_
             refine cv (by kernel_rfl) rfl (by kernel_rfl) (by kernel_rfl) q5 ?_
             try simp only[Act.put,List.setIfInBounds_toArray,List.set_cons_succ,List.set_cons_zero]
             refine qO ?_
             try simp only[Act.put,List.setIfInBounds_toArray,List.set_cons_succ,List.set_cons_zero]
             exact wpIn_ret (hl (by kernel_rfl) (by kernel_rfl))
           · rw[if_neg hk]at eo
             obtain⟨w4,w5,q4,q5,hl⟩:=none_ BWr eo
             refine io (by kernel_rfl) (λc hc=>by cases hc) (by kernel_rfl) (b':=h.kind !=1) (by kernel_rfl) (bne_iff_ne.2 hk) ?_
             refine io (by kernel_rfl) (λc hc=>by cases hc) (by kernel_rfl) (b':=true) (by kernel_rfl) rfl ?_
             refine io (by kernel_rfl) (λc hc=>by cases hc) (by kernel_rfl) (b':=true) (by kernel_rfl) rfl ?_
             try simp only[Act.put,List.setIfInBounds_toArray,List.set_cons_succ,List.set_cons_zero]
             refine qO ?_
             try simp only[Act.put,List.setIfInBounds_toArray,List.set_cons_succ,List.set_cons_zero]
             refine wpIn_cond_true (by kernel_rfl) ?_
             refine rb ?_
             apply wpIn_region_lit
             refine vL (by kernel_rfl) (λc hc=>by cases hc) (by kernel_rfl) (v:=gK.v) (w':=Wr) (by kernel_rfl) ?_
             refine cv (by kernel_rfl) rfl (by kernel_rfl) (by kernel_rfl) q4 ?_
             refine cv (by kernel_rfl) rfl (by kernel_rfl) (by kernel_rfl) q5 ?_
             try simp only[Act.put,List.setIfInBounds_toArray,List.set_cons_succ,List.set_cons_zero]
             refine qO ?_
             try simp only[Act.put,List.setIfInBounds_toArray,List.set_cons_succ,List.set_cons_zero]
             exact wpIn_ret (hl (by kernel_rfl) (by kernel_rfl))
 case stop=>
   rintro D c pre W _ hp ⟨x,hx,hno⟩ _
   exact absurd (hw0 _ (hp x hx)) hno
theorem vQ {ws:List Int}{w:World}(he:Env w){p:Option Addr}{ts:List Txt}(hA:fv w p ts)(htl:ts.length <=100000){a:Option Addr}{n c:Nat}(hs:Sl fu w iv a n c ws)(hin:∀b o,a=some ⟨b,o,none⟩->b<w.heap.size)
   (hw0:∀x∈ws,0 <=x/\x <=(ts.length:Int)) (hwl:ws.length <=1000) (hxl:∀x∈txs ts ws,x.length <=1000):
   Cf po #[.pointer p,.slice a n c] w (Ret λv w'=>v=.tuple #[((cN (txs ts ws)).getD gK).v,.bool (cN (txs ts ws)).isSome]/\bW w w'):=
 (callsIn_wide.1 (vP he hA htl hs hin hw0 hwl hxl)).mono λe w' ⟨he,hb⟩=>⟨_,he,rfl,hb⟩
end
noncomputable def xQ (ts:List Txt):DA:=hD (hAd ts) (hLb ts) (hDg ts) (ts.length+1)
theorem HE {ts:List Txt}(hl:ts.length <=60)(hx:∀t∈ts,t.length <=1000){x:Nat}(h:x <=ts.length):(tx ts x).length <=1000:=by
 rcases Nat.lt_or_ge x ts.length with h1|h1
 · rw[Ky h1];exact hx _ (List.getElem_mem h1)
 · have:x=ts.length:=by omega
   subst this
   rw[DK]
   have:=(gA (qw hl)).2.1
   omega
set_option maxHeartbeats 1000000 in
theorem ug {w:World}(he:Env w){p:Option Addr}{ts:List Txt}(hA:fv w p ts)(htl:ts.length <=60)(hx:∀t∈ts,t.length <=1000):Cf jN #[.pointer p] w (Ret (sq w (xQ ts))):=by
 apply sS
 intro k2 w2 hk2 hw2
 have hb2:=(hw2▸af w _:bW w w2)
 have A2:ak w2 k2 ai [vI 0,vI 0,.slice none 0 0,.slice none 0 0]:=ak.new hk2 hw2
 refine av (cb p ts (by omega) w2 (hA.below hb2)) ?_
 rintro _ w9 ⟨rfl,hw9⟩
 rw[hw9];clear hw9 w9
 have hlen:((ts.length:Int)+1)=((ts.length+1:Nat):Int):=by omega
 obtain⟨k,hkk⟩:∃k,k=ts.length+1:=⟨_,rfl⟩
 refine⟨_,rfl,ae.no (decide_eq_false (by omega)) ?_⟩
 rw[hlen,<- hkk]
 have e4:i64.wrap ((4:Int)*((k:Nat):Int))=((4*k:Nat):Int):=by rw[wrap_i64 (by omega) (by omega)];omega
 try dsimp only
 rw[e4]
 obtain⟨w16,a16,s16,o16,b16,f16⟩:=II (P:=prog) (s:=aA) (t:=ay) (e:=λn=>vI n) (h1:=λ_=>rfl) (p:=λ_=>True) bm ij (x0:=(0:Int)) rfl rfl trivial .i64 .i64 (4*k) (by omega) (by omega) w2 NoB
 refine⟨w16,a16,_,_,s16,?_⟩
 intro k17 w17 hk17 hw17 k5 w5 hk5 hw5
 have hb17:=(hw17▸af w16 _:bW w16 w17)
 have hb5:=(hw5▸af w17 _:bW w17 w5)
 have O17:Ow lg bR w17 NoB (some ⟨k17,0,none⟩) 4 4 [false,false,true,true]:=
   Ow.newF (l:=[Value.bool false,.bool false,.bool true,.bool true]) (T:=lg) vE hk17 hw17 (gu (e:=λb=>Value.bool b) (h1:=λ_=>rfl) (p:=λ_=>True) (xs:=[false,false,true,true]) (λ_ _=>trivial)) (by decide)
 have A5:ak w5 k5 ai [vI 0,vI 0,.slice none 0 0,.slice none 0 0]:=ak.new hk5 hw5
 obtain⟨d0',hd0⟩:∃d:DA,d=⟨(k:Int),1,List.replicate (4*k) 0,[false,false,true,true]⟩:=⟨_,rfl⟩
 obtain⟨wx,s3,v3,g3⟩:=cg.store0 (P:=prog) (cs:=daL a16 (4*k) (4*k) (some ⟨k17,0,none⟩) 4 4 d0') rfl (iF _ _ _ _ _ _ _) A5 rfl
 have s2:=hb2.size
 have s16':=b16.size
 have s17:=hb17.size
 have s5:=hb5.size
 have l2:=A2.lt
 have l17:k17<w17.heap.size:=O17.lt k17 (by simp[bu])
 have ob17:∀g,bu (some (⟨k17,0,none⟩:Addr))=some g->g=k17:=λg hg=>by simp[bu]at hg;exact hg.symm
 have hB5:bW w w5:=ab (ab (ab hb2 b16 hb2.size) hb17 (by omega)) hb5 (by omega)
 have hBx:bW w wx:=Below.put hB5 g3 (by omega)
 have bx5:bW w5 w5:=Below.refl _ _
 have n5:∀g,bu a16=some g->g≠k5:=λg hg e=>by have:=o16.lt g hg;omega
 have U0:UpS w k5 0 ⟨(k:Int),1,hNx (hAd ts) (hLb ts) (hDg ts) k 0,[false,false,true,true]⟩ a16 (4*k) (4*k) (some ⟨k17,0,none⟩) 4 4 wx:=by
   rw[IC]
   rw[hd0]at v3
   refine⟨⟨v3,((o16.below hb17).below hb5).put (λg hg e=>n5 g hg e) g3,(O17.below hb5).put (λg hg e=>by have:=ob17 g hg;omega) g3,n5,λg hg e=>by have:=ob17 g hg;omega,λg hg e=>?_⟩,hBx,λg hg=>by have:=f16 g hg;omega,λg hg=>by have:=ob17 g hg;omega,Nat.zero_le _⟩
   have:=ob17 g e
   have:=o16.lt g hg
   omega
 have A2x:∀{W:World},bW w2 W->ak W k2 ai [vI 0,vI 0,.slice none 0 0,.slice none 0 0]:=λh=>A2.below h
 have hB2x:bW w2 wx:=Below.put (ab (ab b16 hb17 (by omega)) hb5 (by omega)) g3 (by omega)
 rw[hd0]at s3
 refine⟨wx,s3,λm i W=>∃j:Nat,j <=k/\i=(j:Int)/\m=k-j/\UpS w k5 0 ⟨(k:Int),1,hNx (hAd ts) (hLb ts) (hDg ts) k j,[false,false,true,true]⟩ a16 (4*k) (4*k) (some ⟨k17,0,none⟩) 4 4 W/\bW w2 W,⟨_,0,by omega,rfl,rfl,U0,hB2x⟩,?_⟩
 intro m i
 refine aE.of ?_ _
 rintro wl ⟨j,hj,rfl,rfl,U,hW2⟩
 have hnl:∀j,(hNx (hAd ts) (hLb ts) (hDg ts) k j).length=4*k:=λj=>sG _ _ _ _ _
 refine ae.of (λh3=>?_) (λh3=>?_) <;> simp only[dTx,dFx]at h3
 · have hjk:j<k:=by omega
   refine av (kZ p ts (by omega) (j:Int) wl (hA.below U.bel)) ?_
   rintro _ w25 ⟨rfl,hb25⟩
   have hst:ng ts (j:Int)=tx ts j:=rfl
   have hl1:(tx ts j).length <=1000:=HE htl hx (by omega)
   refine⟨_,rfl,?_⟩
   rw[hst]
   have B25:=ab U.bel hb25 U.bel.size
   refine av (kG (tx ts j) (by omega) w25 (he.step B25)) ?_
   rintro _ w28 ⟨rfl,hb28⟩
   have hb28':=ab hb25 hb28 hb25.size
   have put:∀{W:World} {nx:List Int} (c:Nat) (v:Int),c<4->nx.length=4*k->UpS w k5 0 ⟨(k:Int),1,nx,[false,false,true,true]⟩ a16 (4*k) (4*k) (some ⟨k17,0,none⟩) 4 4 W->bW w2 W->
       (Instr.loadAt aA (.pointer (some ⟨k5,2,none⟩))).run prog W=.ok (.slice a16 (4*k) (4*k)) W/\((0 <=i64.wrap (i64.wrap ((c:Int)*((k:Nat):Int))+(j:Int))/\i64.wrap (i64.wrap ((c:Int)*((k:Nat):Int))+(j:Int))<((4*k:Nat):Int))/\Option.isSome a16=true)/\
       ∃wy,(Instr.storeAt ay (.pointer (am a16 (i64.wrap (i64.wrap ((c:Int)*((k:Nat):Int))+(j:Int))) 1)) (vI v)).run prog W=.ok () wy/\UpS w k5 0 ⟨(k:Int),1,nx.set (c*k+j) v,[false,false,true,true]⟩ a16 (4*k) (4*k) (some ⟨k17,0,none⟩) 4 4 wy/\bW w2 wy:=by
     intro W nx c v hc hn U hW
     have hck:c*k <=3*k:=Nat.mul_le_mul_right k (by omega)
     have e1:i64.wrap (i64.wrap ((c:Int)*((k:Nat):Int))+(j:Int))=((c*k+j:Nat):Int):=by
       rw[<- Int.natCast_mul,wrap_i64 (n:=((c*k:Nat):Int)) (by omega) (by omega),wrap_i64 (by omega) (by omega)];omega
     rw[e1]
     have hidx:c*k+j<nx.length:=by omega
     obtain⟨wy,s6,o6,g6⟩:=U.mb.nx.store (P:=prog) ij (i:=((c*k+j:Nat):Int)) (k:=1) (λ_ _ h=>h) (by rw[Int.toNat_natCast];exact hidx) rfl (v:=vI v) (x:=v) eX
     rw[Int.toNat_natCast]at o6
     refine⟨U.mb.var.load1 bm rfl rfl,⟨⟨by omega,by omega⟩,U.mb.nx.all.isSome hidx⟩,wy,s6,⟨⟨U.mb.var.grown g6 (λex=>U.mb.na k5 ex.symm rfl),o6,U.mb.ac.other g6 (λg hg ex=>U.mb.ne g ex hg),U.mb.na,U.mb.nb,U.mb.ne⟩,U.bel.grown g6 U.bel.size λg hg=>U.fa g hg,U.fa,U.fb,Nat.zero_le _⟩,hW.grown g6 hW.size λg hg=>?_⟩
     exact f16 g hg
   have up:∀{W:World} {nx:List Int} {W':World},UpS w k5 0 ⟨(k:Int),1,nx,[false,false,true,true]⟩ a16 (4*k) (4*k) (some ⟨k17,0,none⟩) 4 4 W->bW W W'->UpS w k5 0 ⟨(k:Int),1,nx,[false,false,true,true]⟩ a16 (4*k) (4*k) (some ⟨k17,0,none⟩) 4 4 W':=λU hb=>⟨U.mb.below hb,ab U.bel hb U.bel.size,U.fa,U.fb,Nat.zero_le _⟩
   have again:∀{W:World} {nx:List Int},nx=hNx (hAd ts) (hLb ts) (hDg ts) k (j+1)->UpS w k5 0 ⟨(k:Int),1,nx,[false,false,true,true]⟩ a16 (4*k) (4*k) (some ⟨k17,0,none⟩) 4 4 W->bW w2 W->
       ∃m':Nat,m'<k-j/\∃j':Nat,j' <=k/\i64.wrap ((j:Int)+1)=(j':Int)/\m'=k-j'/\UpS w k5 0 ⟨(k:Int),1,hNx (hAd ts) (hLb ts) (hDg ts) k j',[false,false,true,true]⟩ a16 (4*k) (4*k) (some ⟨k17,0,none⟩) 4 4 W/\bW w2 W:=by
     rintro W nx rfl U hW
     exact⟨k-(j+1),by omega,j+1,by omega,by rw[wrap_i64 (by omega) (by omega)];omega,rfl,U,hW⟩
   have U28:=up U hb28'
   have W28:bW w2 w28:=ab hW2 hb28' hW2.size
   refine⟨_,rfl,ae.of (λc1=>?_) (λc1=>?_)⟩
   · obtain⟨q1,q2,wy,q3,U',W'⟩:=put 1 3 (by omega) (hnl j) U28 W28
     exact⟨rfl,a16,_,_,q1,q2,wy,q3,again (Ae (by omega) (by rw[show hAd ts j=true from c1];simp)) U' W'⟩
   · refine av (mI (tx ts j) (by omega) w28 (he.step U28.bel)) ?_
     rintro _ w38 ⟨rfl,hb38⟩
     have U38:=up U28 hb38
     have W38:bW w2 w38:=ab W28 hb38 W28.size
     have c1':hAd ts j=false:=c1
     refine⟨_,rfl,ae.of (λc2=>?_) (λc2=>?_)⟩
     · have c2':hLb ts j=true:=c2
       obtain⟨q1,q2,wy,q3,U',W'⟩:=put 2 2 (by omega) (hnl j) U38 W38
       refine⟨rfl,a16,_,_,q1,q2,wy,q3,?_⟩
       refine av (j1 (tx ts j) (by omega) wy) ?_
       rintro _ w47 ⟨rfl,hb47⟩
       have U47:=up U' hb47
       have W47:bW w2 w47:=ab W' hb47 W'.size
       refine⟨_,rfl,ae.of (λc3=>?_) (λc3=>?_)⟩
       · have c3':hDg ts j=false:=by
           have:(!cG (tx ts j))=true:=c3
           show cG (tx ts j)=false
           simpa using this
         obtain⟨r1,r2,wz,r3,U'',W''⟩:=put 1 2 (by omega) (by rw[List.length_set];exact hnl j) U47 W47
         exact⟨rfl,a16,_,_,r1,r2,wz,r3,again (Ae (by omega) (by rw[c1',c2',c3'];simp)) U'' W''⟩
       · have c3':hDg ts j=true:=by
           have:(!cG (tx ts j))=false:=c3
           show cG (tx ts j)=true
           simpa using this
         exact again (Ae (by omega) (by rw[c1',c2',c3'];simp)) U47 W47
     · have c2':hLb ts j=false:=c2
       exact again (Ae (by omega) (by rw[c1',c2'];simp)) U38 W38
 · have hjk:j=k:=by omega
   subst hjk
   have eD:(⟨(j:Int),1,hNx (hAd ts) (hLb ts) (hDg ts) j j,[false,false,true,true]⟩:DA)=xQ ts:=by unfold xQ hD;rw[hkk]
   rw[eD]at U
   obtain⟨w9,s9,s9',g9⟩:=dU (A2x hW2) rfl a16 (4*j) (4*j) (some ⟨k17,0,none⟩) 4 4 (xQ ts)
   have OO:xN w.heap.size wl a16 (4*j) (4*j) (some ⟨k17,0,none⟩) 4 4 (xQ ts):=⟨U.mb.nx,U.mb.ac,U.mb.ne,U.fa,U.fb⟩
   have f2:∀g,bu a16=some g->g≠k2:=λg hg e=>by have:=f16 g hg;omega
   have O9:xN w.heap.size w9 a16 (4*j) (4*j) (some ⟨k17,0,none⟩) 4 4 (xQ ts):=⟨U.mb.nx.put (λg hg e=>f2 g hg e) g9,U.mb.ac.put (λg hg e=>by have:=ob17 g hg;omega) g9,U.mb.ne,U.fa,U.fb⟩
   exact⟨_,_,a16,_,_,some ⟨k17,0,none⟩,4,4,cg.load0 (cs:=daL a16 (4*j) (4*j) (some ⟨k17,0,none⟩) 4 4 (xQ ts)) U.mb.var rfl,w9,s9,_,_,a16,_,_,some ⟨k17,0,none⟩,4,4,s9',a16,_,_,some ⟨k17,0,none⟩,4,4,rfl,O9,Below.put U.bel g9 (by omega)⟩
def ff (d:DA)(j t:Nat):List (Int×Int):=((List.range j).filter λi=>decide ((d.nx.getD i 0).toNat=t)).map λi=>(((i/d.K:Nat):Int),((i%d.K:Nat):Int))
theorem xI (d:DA)(j t:Nat):ff d (j+1) t=ff d j t++(if(d.nx.getD j 0).toNat=t then[(((j/d.K:Nat):Int),((j%d.K:Nat):Int))]else[]):=by
 unfold ff
 rw[List.range_succ,List.filter_append,List.map_append]
 congr 1
 by_cases h:(d.nx.getD j 0).toNat=t
 · rw[if_pos h,List.filter_cons,if_pos (decide_eq_true h)];rfl
 · rw[if_neg h,List.filter_cons,if_neg (by simpa only[dTx]using h)];rfl
theorem zj {d:DA}(hd:d.Ok){t:Nat}{p:Int×Int} :p∈ff d d.nx.length t ↔ ∃f x:Nat,p=((f:Int),(x:Int))/\f<d.n/\x<d.K/\d.to f x=t:=by
 have hK:0<d.K:=by have:=hd.k1;show 0<d.k.toNat;omega
 unfold ff
 rw[List.mem_map]
 constructor
 · rintro⟨i,hi,rfl⟩
   rw[List.mem_filter,List.mem_range,dTx]at hi
   obtain⟨h1,h2⟩:=hi
   rw[hd.lenN]at h1
   refine⟨i/d.K,i%d.K,rfl,Nat.div_lt_of_lt_mul (by rw[Nat.mul_comm];exact h1),Nat.mod_lt _ hK,?_⟩
   unfold DA.to
   rw[show i/d.K*d.K+i%d.K=i from by rw[Nat.mul_comm];exact Nat.div_add_mod i d.K]
   exact h2
 · rintro⟨f,x,rfl,hf,hx,e⟩
   have hi:f*d.K+x<d.n*d.K:=nM hf hx
   refine⟨f*d.K+x,?_,?_⟩
   · rw[List.mem_filter,List.mem_range,dTx,hd.lenN]
     exact⟨hi,e⟩
   · have e1:(f*d.K+x)/d.K=f:=by rw[Nat.mul_comm,Nat.mul_add_div hK,Nat.div_eq_of_lt hx,Nat.add_zero]
     have e2:(f*d.K+x)%d.K=x:=by rw[Nat.mul_comm,Nat.mul_add_mod];exact Nat.mod_eq_of_lt hx
     rw[e1,e2]
structure Rnd (d:DA)(cs:List Int)(C:Int)(out:List Int)(H:Hp):Prop where
 inv:HT d cs C out
 hin:HIn d out H
 pend:∀s,s<d.n->HV d cs out H s
structure Mid (d:DA)(cs:List Int)(C:Int)(out:List Int)(H:Hp)(st:Nat)(c:Int)(j:Nat):Prop where
 inv:HT d cs C out
 hin:HIn d out H
 lt:st<d.n
 cost:oAt out st=c
 fin:c <=68719476736-1048576
 pend:∀s,s<d.n->s≠st->HV d cs out H s
 done:∀f x:Nat,((f:Int),(x:Int))∈(ff d d.nx.length st).take j->oAt out f <=c+cAt cs x
theorem Rnd.first {d:DA}{cs:List Int}{C:Int}{out:List Int}{H:Hp}(hl:out.length=d.n)(h:∀s,s<d.n->oAt out s=if d.acc s=true then 0 else INF)(hH:∀c s,(c,s)∈H ↔ c=0/\s<d.n/\d.acc s=true):Rnd d cs C out H:=by
 refine⟨HT.first hl h,λp hp=>?_,λs hs hi=>?_⟩
 · obtain⟨c,s⟩:=p
   obtain⟨h1,h2,h3⟩:=(hH c s).1 hp
   refine⟨h2,?_,?_⟩
   · show oAt out s <=c
     rw[h s h2,if_pos h3,h1];exact Int.le_refl _
   · show c <=_
     rw[h1];decide
 · left
   rw[h s hs]at hi ⊢
   by_cases ha:d.acc s=true
   · rw[if_pos ha];exact(hH 0 s).2 ⟨rfl,hs,ha⟩
   · rw[if_neg ha]at hi;exact absurd rfl hi
theorem HIn.perm {d:DA}{out:List Int}{H H':Hp}(h:HIn d out H)(hs:∀p∈H',p∈H):HIn d out H':=λp hp=>h p (hs p hp)
theorem Rnd.skip {d:DA}{cs:List Int}{C:Int}{out:List Int}{H H':Hp}{c:Int}{st:Nat}(h:Rnd d cs C out H)(hp:H.Perm ((c,st)::H'))(hc:oAt out st<c):Rnd d cs C out H':=by
 refine⟨h.inv,h.hin.perm λp hm=>hp.mem_iff.2 (List.mem_cons_of_mem _ hm),λs hs hi=>?_⟩
 rcases h.pend s hs hi with h1|h1
 · rcases List.mem_cons.1 (hp.mem_iff.1 h1)with h2|h2
   · obtain⟨e1,e2⟩:=Prod.mk.inj h2
     subst e2;omega
   · exact .inl h2
 · exact .inr h1
theorem Rnd.take {d:DA}(hd:d.Ok){cs:List Int}{C:Int}(hC:Ib cs C){out:List Int}{H H':Hp}{c:Int}{st:Nat}(h:Rnd d cs C out H)(hp:H.Perm ((c,st)::H'))(hc: ¬ oAt out st<c):Mid d cs C out H' st c 0:=by
 have hm:(c,st)∈H:=hp.mem_iff.2 List.mem_cons_self
 obtain⟨h1,h2,h3⟩:=h.hin _ hm
 have e:oAt out st=c:=by
   have h2:oAt out st <=c:=h2
   omega
 have hI:=tL
 have hne:oAt out st≠INF:=by
   have h3:c <=68719476736:=h3
   omega
 refine⟨h.inv,h.hin.perm λp hm=>hp.mem_iff.2 (List.mem_cons_of_mem _ hm),h1,e,?_,λs hs hst hi=>?_,λf x hx=>by simp at hx⟩
 · rw[<- e];exact(h.inv.bnd st h1 hne).le hd (by have:=hC.lo;omega) hC.hi h1
 · rcases h.pend s hs hi with h4|h4
   · rcases List.mem_cons.1 (hp.mem_iff.1 h4)with h5|h5
     · exact absurd (Prod.mk.inj h5).2 hst
     · exact .inl h5
   · exact .inr h4
theorem zy {α:Type}{l:List α}{j:Nat}{x:α}(h:l[j]? =some x):l.take (j+1)=l.take j++[x]:=by
 obtain⟨h1,h2⟩:=List.getElem?_eq_some_iff.1 h
 rw[List.take_succ_eq_append_getElem h1,h2]
theorem Mid.no {d:DA}{cs:List Int}{C:Int}{out:List Int}{H:Hp}{st:Nat}{c:Int}{j f x:Nat}(h:Mid d cs C out H st c j)(hj:(ff d d.nx.length st)[j]? =some ((f:Int),(x:Int)))(hn: ¬ c+cAt cs x<oAt out f):Mid d cs C out H st c (j+1):=
 ⟨h.inv,h.hin,h.lt,h.cost,h.fin,h.pend,λg y hg=>by
   rw[zy hj]at hg
   rcases List.mem_append.1 hg with hg|hg
   · exact h.done g y hg
   · rw[List.mem_singleton]at hg
     obtain⟨e1,e2⟩:=Prod.mk.inj hg
     have e1:g=f:=by omega
     have e2:y=x:=by omega
     subst e1 e2;omega⟩
theorem Mid.yes {d:DA}(hd:d.Ok){cs:List Int}{C:Int}{out:List Int}(hc:ql cs)(hC:Ib cs C)(hk:cs.length=d.K){H H':Hp}{st:Nat}{c:Int}{j f x:Nat}(h:Mid d cs C out H st c j)(hj:(ff d d.nx.length st)[j]? =some ((f:Int),(x:Int)))
   (hf:f<d.n) (hx:x<d.K) (ht:d.to f x=st) (hy:c+cAt cs x<oAt out f) (hH:∀p,p∈H' ↔ p=(c+cAt cs x,f)\/p∈H):Mid d cs C (out.set f (c+cAt cs x)) H' st c (j+1):=by
 have hcx:=hc.at (x:=x) (by omega)
 have hI:=tL
 have hfin:=h.fin
 have hst:=h.cost
 have hne:f≠st:=λe=>by subst e;omega
 have hfl:f<out.length:=by rw[h.inv.len];exact hf
 have hi:oAt out st≠INF:=by omega
 have hinv:=h.inv.down hd hc hC hk hf hx ht hi (v:=c+cAt cs x) (by omega) hy
 refine⟨hinv,(HIn.down hfl hf hy (by omega) h.hin).perm λp hp=>?_,h.lt,by rw[ct hne];exact hst,hfin,λs hs hss hsi=>?_,λg y hg=>?_⟩
 · rcases(hH p).1 hp with rfl|hp
   · exact List.mem_cons_self
   · exact List.mem_cons_of_mem _ hp
 · by_cases e:f=s
   · subst e
     left
     rw[cR hfl]
     exact(hH _).2 (.inl rfl)
   · exact(HV.down hfl hy e ((h.pend s hs hss).sub λp hp=>(hH p).2 (.inr hp))) hsi
 · have hle:oAt (out.set f (c+cAt cs x)) g <=oAt out g:=by
     by_cases e:f=g
     · subst e;rw[cR hfl];omega
     · rw[ct e];exact Int.le_refl _
   rw[zy hj]at hg
   rcases List.mem_append.1 hg with hg|hg
   · have:=h.done g y hg;omega
   · rw[List.mem_singleton]at hg
     obtain⟨e1,e2⟩:=Prod.mk.inj hg
     have e1:g=f:=by omega
     have e2:y=x:=by omega
     subst e1 e2
     rw[cR hfl]
     exact Int.le_refl _
theorem Mid.over {d:DA}(hd:d.Ok){cs:List Int}{C:Int}{out:List Int}{H:Hp}{st:Nat}{c:Int}{j:Nat}(h:Mid d cs C out H st c j)(hj:(ff d d.nx.length st).length <=j):Rnd d cs C out H:=by
 refine⟨h.inv,h.hin,λs hs=>?_⟩
 by_cases e:s=st
 · subst e
   intro _
   right
   intro f x hf hx ht
   have:=h.done f x (by rw[List.take_of_length_le hj];exact(zj hd).2 ⟨f,x,rfl,hf,hx,ht⟩)
   rw[h.cost];exact this
 · exact h.pend s hs e
theorem Rnd.left {d:DA}(hd:d.Ok){cs:List Int}{C:Int}{out:List Int}(hc:ql cs)(hC:Ib cs C)(hk:cs.length=d.K)(h:Rnd d cs C out []):pm d cs out:=h.inv.done hd hc hC hk h.pend
def Mh:Ty (List Pi) where
 k:=1
 pos:=by decide
 rep:=λw A vs xs=>∃a n c,vs=[.slice a n c]/\Sl tP w A a n c xs
 len:=λh=>by obtain⟨a,n,c,e,_⟩:=h;rw[e];rfl
 one:=fun{_ _ _ x} h v hv=>by obtain⟨a,n,c,e,_⟩:=h;rw[e]at hv;simp at hv;subst hv;rfl
 keep:=λh hk=>by obtain⟨a,n,c,e,hs⟩:=h;exact⟨a,n,c,e,hs.keep hk⟩
 mono:=λh hA=>by obtain⟨a,n,c,e,hs⟩:=h;exact⟨a,n,c,e,hs.mono hA⟩
structure Hd where
 a:Option Addr
 n:Nat
 c:Nat
 xs:List Pi
def Hd.v (h:Hd):Value:=.slice h.a h.n h.c
theorem Lm {α:Type}{l:List α}{t:Nat}(x v:α)(ht:t<l.length):l.take t++[v]++l.drop (t+1)=l.set t v:=by
 rw[List.set_eq_take_append_cons_drop,if_pos ht,List.append_assoc];rfl
theorem qH {α:Type}{l:List α}{t i:Nat}{v y:α}(h:(l.set t v)[i]? =some y):i=t/\y=v\/i≠t/\l[i]? =some y:=by
 by_cases e:i=t
 · subst e
   left
   have hl:i<l.length:=by have:=(List.getElem?_eq_some_iff.1 h).1;simpa using this
   rw[List.getElem?_set_self hl]at h
   exact⟨rfl,(Option.some.inj h).symm⟩
 · rw[List.getElem?_set_ne (λe2=>e e2.symm)]at h
   exact .inr ⟨e,h⟩
structure FU (to_ ti:TypeId)(B:Nat)(w:World)(g:Nat)(hs:List Hd):Prop where
 row:ak w g to_ (hs.map Hd.v)
 own:∀h∈hs,Ow tP ti w NoB h.a h.n h.c h.xs
 new:∀h∈hs,bp B h.a
 low:B <=g
 out:∀h∈hs,bu h.a≠some g
 apart:∀(i j:Nat) (x y:Hd),hs[i]? =some x->hs[j]? =some y->i≠j->∀b,bu x.a=some b->bu y.a≠some b
theorem FU.below {to_ ti:TypeId}{B:Nat}{w w':World}{g:Nat}{hs:List Hd}(h:FU to_ ti B w g hs)(hb:bW w w'):FU to_ ti B w' g hs:=
 ⟨h.row.below hb,λx hx=>(h.own x hx).below hb,h.new,h.low,h.out,h.apart⟩
theorem Js:Whl prog dx 2:=⟨⟨_,_,tR⟩,by kernel_rfl⟩
def I9 (d:DA)(j:Nat)(hs:List Hd):Prop:=hs.length=d.n/\∀t x,hs[t]? =some x->x.xs=ff d j t
theorem Ba {w:World}{a b:Option Addr}{n c m e:Nat}{d:DA}(h:DaS w a n c b m e d)(hd:d.Ok):
   Cf nB #[daV a n c b m e d] w (Ret λv w'=>∃(a':Option Addr) (n' c':Nat),v=.slice a' n' c'/\Sl Mh w' (λg=>w.heap.size <=g) a' n' c' ((List.range d.n).map (ff d d.nx.length))/\bW w w'):=by
 apply yJ
 intro k1 w1 hk1 hw1
 have b1:=(hw1▸af w _:bW w w1)
 have A1:ak w1 k1 ai ([vI d.k,vI d.st,.slice a n c,.slice b m e]):=ak.new hk1 hw1
 have hm:=h.ac.len
 have hn:=h.nx.len
 have hN:=hd.n2
 have hN1:=hd.n1
 have hlen:=hd.lenN
 have hKK:=hd.kk
 have hK2:=hd.k2
 have hK1:=hd.k1
 have hmul:d.n*d.K <=65536*512:=Nat.mul_le_mul hN (by show d.k.toNat <=512;omega)
 refine⟨rfl,b,m,e,A1.load1 bf rfl rfl,?_⟩
 obtain⟨ti,hti,hsz,hbt,hzz⟩:=ot.info
 have hr:=run_make_row (P:=prog) iE bo ti (.slice none 0 0) rJ hti hzz hsz rfl .i64 .i64 m (by rw[hbt];omega) (by omega) w1
 rw[As]at hr
 obtain⟨w9,hw9⟩:∃w9,w9=w1.alloc (.cells (List.replicate m (Value.slice none 0 0)).toArray bo):=⟨_,rfl⟩
 obtain⟨g,hg⟩:∃g,g=w1.heap.size:=⟨_,rfl⟩
 rw[<- hw9,<- hg]at hr
 have b9:bW w1 w9:=hw9▸af w1 _
 have kg:k1<g:=by have:=A1.lt;omega
 have R0:FU bo dx w.heap.size w9 g (List.replicate m ⟨none,0,0,[]⟩):=by
   refine⟨?_,λx hx=>?_,λx hx=>?_,by omega,λx hx=>?_,λi j x y hx hy hij bb hb=>?_⟩
   · rw[List.map_replicate];exact ak.new hg hw9
   · rw[(List.mem_replicate.1 hx).2];exact Ow.nil _ _ _ _
   · rw[(List.mem_replicate.1 hx).2];exact bp.none _
   · rw[(List.mem_replicate.1 hx).2];intro h;cases h
   · have:=List.mem_of_getElem? hx
     rw[(List.mem_replicate.1 this).2]at hb;cases hb
 have W0:I9 d 0 (List.replicate m ⟨none,0,0,[]⟩):=⟨by rw[List.length_replicate];exact hm,λt x hx=>by
   have:=List.mem_of_getElem? hx
   rw[(List.mem_replicate.1 this).2];rfl⟩
 refine⟨w9,some ⟨g,0,none⟩,m,m,hr,rfl,a,n,c,(A1.below b9).load1 bm rfl rfl,?_⟩
 have B9:=ab b1 b9 b1.size
 refine⟨λmm i wl=>∃(j:Nat) (hs:List Hd),i=(j:Int)/\j <=d.nx.length/\mm=d.nx.length-j/\FU bo dx w.heap.size wl g hs/\I9 d j hs/\ak wl k1 ai ([vI d.k,vI d.st,.slice a n c,.slice b m e])/\(∀x∈hs,bu x.a≠some k1)/\bW w wl,
   ⟨_,0,_,rfl,Nat.zero_le _,rfl,R0,W0,A1.below b9,λx hx=>(by rw[(List.mem_replicate.1 hx).2];intro h;cases h),B9⟩,?_⟩
 intro mm i
 refine aE.of ?_ _
 rintro wl ⟨j,hs,rfl,hj,rfl,R,W,A,hk1,Bl⟩
 have hx:=(h.below Bl).nx
 refine ae.of (λh5=>?_) (λh5=>?_) <;> simp only[dTx,dFx]at h5
 · have hlt:j<d.nx.length:=by omega
   have hv:=hd.nx0 _ (List.getElem_mem hlt)
   obtain⟨t,ht⟩:∃t:Nat,d.nx[j]=(t:Int):=⟨d.nx[j].toNat,by omega⟩
   have htn:t<d.n:=by show t<d.ac.length;omega
   obtain⟨x,hxt⟩:∃x,hs[t]? =some x:=⟨_,List.getElem?_eq_getElem (by rw[W.1];exact htn)⟩
   have hxm:=List.mem_of_getElem? hxt
   have hmap:(hs.map Hd.v)[t]? =some x.v:=by rw[List.getElem?_map,hxt];rfl
   have htm:t<m:=by rw[hm];exact htn
   have eaddr:am (some ⟨g,0,none⟩) ((t:Nat):Int) 1=some ⟨g,t,none⟩:=by rw[fB,Nat.zero_add]
   refine⟨⟨⟨by omega,h5⟩,hx.isSome hlt⟩,_,hx.num aI hlt,?_⟩
   rw[ht,eaddr]
   have hxs:=W.2 t x hxt
   have hwl:x.xs.length <=d.nx.length:=by
     rw[hxs]
     unfold ff
     rw[List.length_map]
     have:=List.length_filter_le (λi=>decide ((d.nx.getD i 0).toNat=t)) (List.range j)
     rw[List.length_range]at this
     omega
   refine⟨⟨⟨by omega,by omega⟩,rfl⟩,rfl,rfl,x.a,x.n,x.c,λu hu=>(R.row.below hu).load1 kj rfl hmap,d.k,λu hu=>(A.below hu).load1 aI rfl rfl,by omega,λq27 hq27=>?_⟩
   refine⟨d.k,λu hu=>(A.below hu).load1 aI rfl rfl,by omega,λq31 hq31 k33 hk33 wq hq hcell=>?_⟩
   have e27:q27=((j/d.K:Nat):Int):=by
     rw[hq27,<- hKK]
     show i64.wrap (((j/d.K:Nat):Int))=_
     have h0:j/d.K <=j:=Nat.div_le_self _ _
     revert h0
     generalize j/d.K=q
     intro h0
     exact wrap_i64 (by omega) (by omega)
   have e31:q31=((j%d.K:Nat):Int):=by rw[hq31,<- hKK];rfl
   have Rq:=R.below hq
   have hsrc:Src tP wq NoB (some ⟨k33,0,none⟩) 1 [(q27,q31)]:=Src.at1 z6 (vs:=prC (q27,q31)) hcell rfl
   obtain⟨w34,a34,n34,c34,r34,o34,g34,f34⟩:=co (ty:=bo) kj tR (by decide) (Rq.own x hxm) (λ_ _ h=>h) (cm:=1) hsrc (by simp;omega)
   have row34:=Rq.row.grown g34 λex=>Rq.out x hxm ex.symm
   obtain⟨wx,sx,rowx,gx⟩:=row34.store ot (i:=t) (v:=.slice a34 n34 c34) rfl (by rw[List.length_map,W.1];omega) (by intro c hc;simp[Value.cells]at hc;subst hc;rfl)
   refine⟨w34,a34,n34,c34,r34,⟨⟨by omega,by omega⟩,rfl⟩,wx,sx,d.nx.length-(j+1),by omega,j+1,hs.set t ⟨a34,n34,c34,x.xs++[(q27,q31)]⟩,by rw[wrap_i64 (by omega) (by omega)];omega,hlt,rfl,?_,?_,?_,?_,?_⟩
   · have hxm':=R.new x hxm
     have fresh34:∀b,bu a34=some b->bu x.a=some b\/wl.heap.size <=b:=λb hb=>by
       rcases f34 b hb with e|e
       · exact .inl e
       · have:=hq.size;exact .inr (by omega)
     have glt:g<wl.heap.size:=R.row.lt
     have ne34:∀b,bu a34=some b->b≠g:=λb hb e=>by
       rcases fresh34 b hb with e2|e2
       · exact R.out x hxm (by rw[e2,e])
       · omega
     refine⟨?_,λy hy=>?_,λy hy=>?_,R.low,λy hy=>?_,λi2 j2 y z hy hz hij bb hb=>?_⟩
     · have e:(hs.set t ⟨a34,n34,c34,x.xs++[(q27,q31)]⟩).map Hd.v=(hs.map Hd.v).take t++[Value.slice a34 n34 c34]++(hs.map Hd.v).drop (t+1):=by
         rw[Lm (Value.slice a34 n34 c34) _ (by rw[List.length_map,W.1];exact htn),List.map_set];rfl
       rw[e];exact rowx
     · obtain⟨i2,hi2⟩:=List.mem_iff_getElem?.1 hy
       rcases qH hi2 with⟨_,rfl⟩|⟨hne,hi3⟩
       · exact o34.put (λb hb e=>ne34 b hb e) gx
       · have hym:=List.mem_of_getElem? hi3
         refine((Rq.own y hym).other g34 λb hb=>R.apart i2 t y x hi3 hxt hne b hb).put (λb hb e=>R.out y hym (by rw[hb,e])) gx
     · obtain⟨i2,hi2⟩:=List.mem_iff_getElem?.1 hy
       rcases qH hi2 with⟨_,rfl⟩|⟨hne,hi3⟩
       · intro b hb
         rcases fresh34 b hb with e|e
         · exact hxm' b e
         · have:=Bl.size;omega
       · exact R.new y (List.mem_of_getElem? hi3)
     · obtain⟨i2,hi2⟩:=List.mem_iff_getElem?.1 hy
       rcases qH hi2 with⟨_,rfl⟩|⟨hne,hi3⟩
       · intro hb;exact ne34 g hb rfl
       · exact R.out y (List.mem_of_getElem? hi3)
     · rcases qH hy with⟨e1,rfl⟩|⟨hne,hy3⟩ <;> rcases qH hz with⟨e2,rfl⟩|⟨hne2,hz3⟩
       · omega
       · intro hb2
         rcases fresh34 bb hb with e|e
         · exact R.apart j2 t z x hz3 hxt hne2 bb hb2 e
         · have:=(R.own z (List.mem_of_getElem? hz3)).lt bb hb2;omega
       · intro hb2
         rcases fresh34 bb hb2 with e|e
         · exact R.apart i2 t y x hy3 hxt hne bb hb e
         · have:=(R.own y (List.mem_of_getElem? hy3)).lt bb hb;omega
       · exact R.apart i2 j2 y z hy3 hz3 hij bb hb
   · refine⟨by rw[List.length_set];exact W.1,λt2 y hy=>?_⟩
     have hgj:(d.nx.getD j 0).toNat=t:=by
       rw[List.getD_eq_getElem?_getD,List.getElem?_eq_getElem hlt]
       show d.nx[j].toNat=t
       rw[ht];exact Int.toNat_natCast t
     rcases qH hy with⟨rfl,rfl⟩|⟨hne,hy3⟩
     · show x.xs++[(q27,q31)]=_
       rw[xI,if_pos hgj,hxs,e27,e31]
     · rw[xI,if_neg (λe=>hne (by rw[<- e,hgj])),List.append_nil]
       exact W.2 t2 y hy3
   · exact((A.below hq).grown g34 (λe=>hk1 x hxm e.symm)).grown gx (gM (by omega))
   · intro y hy
     obtain⟨i2,hi2⟩:=List.mem_iff_getElem?.1 hy
     rcases qH hi2 with⟨_,rfl⟩|⟨hne,hi3⟩
     · intro hb
       rcases f34 k1 hb with e|e
       · exact hk1 x hxm e
       · have:=A.lt;have:=hq.size;omega
     · exact hk1 y (List.mem_of_getElem? hi3)
   · have B1:=ab Bl hq Bl.size
     have B2:bW w w34:=B1.trans ((Chg.row g34).below B1.size λk hk=>R.new x hxm k (by simpa using hk))
     exact Below.put B2 gx R.low
 · have:j=d.nx.length:=by omega
   subst this
   have hsl:hs.length=d.n:=W.1
   refine⟨_,m,m,rfl,⟨by rw[List.length_map,List.length_range];exact hm,Nat.le_refl _,by show m <=9223372036854775807;omega,.inr ⟨g,0,rfl,R.row.lt,R.low,hs.map Hd.v,⟨?_,λi hi=>?_⟩,λi hi=>?_⟩⟩,Bl⟩
   · rw[List.length_map,List.length_map,List.length_range]
     show hs.length=d.n*1
     omega
   · have hi':i<hs.length:=by rw[List.length_map,List.length_range]at hi;omega
     have hxi:=R.own hs[i] (List.getElem_mem hi')
     have ex:hs[i].xs=ff d d.nx.length i:=W.2 i hs[i] (List.getElem?_eq_getElem hi')
     refine⟨hs[i].a,hs[i].n,hs[i].c,?_,?_⟩
     · show((hs.map Hd.v).drop (i*1)).take 1=_
       rw[Nat.mul_one,List.drop_eq_getElem_cons (by rw[List.length_map];exact hi'),List.take_succ_cons,List.take_zero,List.getElem_map]
       rfl
     · rw[List.getElem_map,List.getElem_range,<- ex]
       exact hxi.sl (λb _ hb=>hb.elim) λb hb=>R.new hs[i] (List.getElem_mem hi') b hb
   · rw[Nat.zero_add];exact R.row.cell i
def nl (p:Int×Nat):Pi:=(p.1,((p.2:Nat):Int))
structure HU (ta ts te ti:TypeId)(w0:World)(vals:List Value)(k2 k6 s1 s2:Nat)(oa:Option Addr)(on oc:Nat)(out:List Int)(ha:Option Addr)(hn hc:Nat)(H:Hp)(wa:Option Addr)(wn wc:Nat)(ways:List (List Pi))(w:World):Prop where
 dcp:ak w k2 ta vals
 out:Ow fu ti w NoB oa on oc out
 hp:yR ts te w k6 ha hn hc (H.map nl)
 way:Sl Mh w (λg=>s1 <=g/\g<s2) wa wn wc ways
 o1:∀g,bu oa=some g->k2<g/\g<k6
 o2:k6<s1
 o3:s1 <=s2
 o4:s2 <=w.heap.size
 o5:∀g,bu ha=some g->k6<g/\(g<s1\/s2 <=g)
 o6:w0.heap.size <=k2
 o7:k2<k6
 bw:bW w0 w
section
variable {ta ts te ti:TypeId} {w0 w w':World} {vals:List Value} {k2 k6 s1 s2:Nat} {oa ha wa:Option Addr} {on oc hn hc wn wc:Nat} {out:List Int} {H:Hp} {ways:List (List Pi)}
theorem HU.below (h:HU ta ts te ti w0 vals k2 k6 s1 s2 oa on oc out ha hn hc H wa wn wc ways w)(hb:bW w w'):HU ta ts te ti w0 vals k2 k6 s1 s2 oa on oc out ha hn hc H wa wn wc ways w':=
 { h with
   dcp:=h.dcp.below hb
   out:=h.out.below hb
   hp:=h.hp.below hb
   way:=h.way.below hb
   o4:=Nat.le_trans h.o4 hb.size
   bw:=ab h.bw hb h.bw.size }
theorem HU.bag (h:HU ta ts te ti w0 vals k2 k6 s1 s2 oa on oc out ha hn hc H wa wn wc ways w){ha':Option Addr}{hn' hc':Nat}{H':Hp}(hp':yR ts te w' k6 ha' hn' hc' (H'.map nl))(hch:Chg (k6::(bu ha).toList) w w')
   (hf:∀g,bu ha'=some g->bu ha=some g\/w.heap.size <=g):HU ta ts te ti w0 vals k2 k6 s1 s2 oa on oc out ha' hn' hc' H' wa wn wc ways w':=by
 have mem:∀k:Nat,k∈k6::(bu ha).toList->k=k6\/bu ha=some k:=λk hk=>by
   rcases List.mem_cons.1 hk with e|e
   · exact .inl e
   · exact .inr (by simpa using e)
 have p2:=h.o2
 have p3:=h.o3
 have p4:=h.o4
 have p6:=h.o6
 have p7:=h.o7
 have hsz:=hch.size
 exact
   { dcp:=hch.arr h.dcp λhm=>by
       rcases mem _ hm with e|e
       · omega
       · have:=h.o5 _ e;omega
     out:=h.out.keep (hch.keep.mono λb hb=>by
       rcases hb with hb|hb
       · exact hb.elim
       · have:=h.o1 b hb.symm
         intro hm
         rcases mem _ hm with e|e
         · omega
         · have:=h.o5 _ e;omega)
     hp:=hp'
     way:=h.way.keep (hch.keep.mono λb hb hm=>by
       rcases mem _ hm with e|e
       · omega
       · have:=h.o5 _ e;omega)
     o1:=h.o1,o2:=p2,o3:=p3,o4:=by omega
     o5:=λg hg=>by
       rcases hf g hg with e|e
       · exact h.o5 g e
       · omega
     o6:=p6,o7:=p7
     bw:=h.bw.trans (hch.below h.bw.size λk hk=>by
       rcases mem _ hk with e|e
       · omega
       · have:=h.o5 _ e;omega) }
theorem HU.put (h:HU ta ts te ti w0 vals k2 k6 s1 s2 oa on oc out ha hn hc H wa wn wc ways w){out':List Int}(ho:Ow fu ti w' NoB oa on oc out')(hg:w.grownBy w' (bu oa)):HU ta ts te ti w0 vals k2 k6 s1 s2 oa on oc out' ha hn hc H wa wn wc ways w':=by
 have hch:=Chg.row hg
 have mem:∀k:Nat,k∈(bu oa).toList->k2<k/\k<k6:=λk hk=>h.o1 k (by simpa using hk)
 have p2:=h.o2
 have p3:=h.o3
 have p4:=h.o4
 have p6:=h.o6
 have p7:=h.o7
 have hsz:=hch.size
 exact
   { dcp:=hch.arr h.dcp λhm=>by have:=mem _ hm;omega
     out:=ho
     hp:=⟨hch.arr h.hp.var λhm=>(by have:=mem _ hm;omega),h.hp.row.keep (hch.keep.mono λb hb hm=>by
       have:=mem _ hm
       rcases hb with hb|hb
       · exact hb.elim
       · have:=h.o5 b hb.symm;omega),h.hp.ne⟩
     way:=h.way.keep (hch.keep.mono λb hb hm=>by have:=mem _ hm;omega)
     o1:=h.o1,o2:=p2,o3:=p3,o4:=by omega
     o5:=h.o5,o6:=p6,o7:=p7
     bw:=h.bw.trans (hch.below h.bw.size λk hk=>by have:=mem _ hk;omega) }
end
abbrev Lf:=HU ai aH aC ay
theorem Dq {out:List Int}{s:Nat}(h:s<out.length):out[s]=oAt out s:=by
 unfold oAt
 rw[List.getD_eq_getElem?_getD,List.getElem?_eq_getElem h];rfl
theorem Gb {cs:List Int}{s:Nat}(h:s<cs.length):cs[s]=cAt cs s:=by
 unfold cAt
 rw[List.getD_eq_getElem?_getD,List.getElem?_eq_getElem h];rfl
def unC (p:Pi):Int×Nat:=(p.1,p.2.toNat)
theorem EK (p:Int×Nat):unC (nl p)=p:=by
 obtain⟨a,b⟩:=p
 unfold unC nl
 simp
theorem wg {xs:List Pi}{H:Hp}(h:xs.Perm (H.map nl)):∃H':Hp,H'.map nl=xs/\H'.Perm H:=by
 refine⟨xs.map unC,?_,?_⟩
 · rw[List.map_map]
   conv=>rhs;rw[<- List.map_id xs]
   refine List.map_congr_left λx hx=>?_
   obtain⟨q,_,rfl⟩:=List.mem_map.1 (h.mem_iff.1 hx)
   show nl (unC (nl q))=nl q
   rw[EK]
 · have:=h.map unC
   rw[List.map_map]at this
   have e:H.map (unC ∘ nl)=H:=by
     conv=>rhs;rw[<- List.map_id H]
     exact List.map_congr_left λx _=>EK x
   rwa [e]at this
theorem IM {p:Pi}{ys:List Pi}{H:Hp}(h:(H.map nl).Perm (p::ys)):∃(q:Int×Nat) (Y:Hp),p=nl q/\ys=Y.map nl/\H.Perm (q::Y):=by
 obtain⟨L,e,hL⟩:=wg h.symm
 cases L with
 | nil=>simp at e
 | cons q Y=>
   simp only[List.map_cons,List.cons.injEq]at e
   exact⟨q,Y,e.1.symm,e.2.symm,hL.symm⟩
def H8 (d:DA)(cs:List Int)(w:World)(v:Value)(w':World):Prop:=∃(oa:Option Addr) (on oc:Nat) (out:List Int),v=.slice oa on oc/\Ow fu ay w' NoB oa on oc out/\pm d cs out/\bp w.heap.size oa/\bW w w'
theorem Bc {w:World}{a b a1:Option Addr}{n c m e l1 c1:Nat}{d:DA}{cs:List Int}(h:DaS w a n c b m e d)(hd:d.Ok)(hs:Sl fu w iv a1 l1 c1 cs)(hc:ql cs){C:Int}(hC:Ib cs C)(hk:cs.length=d.K){M:Nat}
   (hM:((d.n-1:Nat):Int)*C <=(M:Int)) (hM2:d.n*(M+3) <=900000000000):
   Cf nE #[daV a n c b m e d,.slice a1 l1 c1] w (Ret (H8 d cs w)):=by
 apply yL
 have hm:=h.ac.len
 have hl1:=hs.len
 have hN2:d.n <=65536:=hd.n2
 have hN1:1 <=d.n:=hd.n1
 have hmn:m=d.n:=hm
 subst hmn
 intro k2 w2 hk2 hw2 k14 w14 hk14 hw14
 have b2:=(hw2▸af w _:bW w w2)
 have b14:=(hw14▸af w2 _:bW w2 w14)
 have A2:ak w2 k2 ai [vI d.k,vI d.st,.slice a n c,.slice b d.n e]:=ak.new hk2 hw2
 have A14:ak w14 k14 ay [vI INF]:=ak.new hk14 hw14
 refine⟨rfl,b,d.n,e,(A2.below b14).load1 bf rfl rfl,?_⟩
 have hsl:Sl fu w14 iv (some ⟨k14,0,none⟩) 1 1 [INF]:=by
   refine⟨rfl,Nat.le_refl _,by decide,.inr ⟨k14,0,rfl,A14.lt,trivial,[vI INF],gy.one eX,λj hj=>?_⟩⟩
   rw[Nat.zero_add];exact A14.cell j
 refine av (lB hsl (k:=d.n) hN1 (by omega)) ?_
 rintro _ w18 ⟨oa,rfl,O18,f18,b18⟩
 refine⟨oa,d.n,d.n,rfl,?_⟩
 intro k6 w6 hk6 hw6
 have b6:=(hw6▸af w18 _:bW w18 w6)
 have A6:ak w6 k6 aH [.slice none 0 0]:=ak.new hk6 hw6
 have l2:=A2.lt
 have s14:=b14.size
 have B6:bW w2 w6:=ab (ab b14 b18 b14.size) b6 (Nat.le_trans b14.size b18.size)
 have S0:Lf w [vI d.k,vI d.st,.slice a n c,.slice b d.n e] k2 k6 (k6+1) (k6+1) oa d.n d.n (List.replicate d.n INF) none 0 0 [] none 0 0 [] w6:=
   { dcp:=A2.below B6
     out:=O18.below b6
     hp:=⟨A6,Ow.nil _ _ _ _,λg hg=>by cases hg⟩
     way:=Sl.nil _ _ _ _ _ (Nat.zero_le _)
     o1:=λg hg=>by have:=f18 g hg;have:=O18.lt g hg;omega
     o2:=by omega
     o3:=Nat.le_refl _
     o4:=A6.lt
     o5:=λg hg=>by cases hg
     o6:=by omega
     o7:=by have:=b18.size;omega
     bw:=ab b2 B6 b2.size }
 refine⟨rfl,b,d.n,e,S0.dcp.load1 bf rfl rfl,?_⟩
 clear A2 A14 hsl O18 A6 b6 b18 b14 B6 hw2 hw14 hw6
 refine⟨λmm n22 wl=>∃(i:Nat) (out:List Int) (ha:Option Addr) (hn hc':Nat) (H:Hp),n22=(i:Int)/\i <=d.n/\mm=d.n-i/\Lf w [vI d.k,vI d.st,.slice a n c,.slice b d.n e] k2 k6 (k6+1) (k6+1) oa d.n d.n out ha hn hc' H none 0 0 [] wl/\
   out.length=d.n/\(∀s,s<d.n->oAt out s=if s<i/\d.acc s=true then 0 else INF)/\(∀cc s,(cc,s)∈H ↔ cc=0/\s<i/\d.acc s=true)/\H.length <=i,
   ⟨_,0,_,none,0,0,[],rfl,Nat.zero_le _,rfl,S0,by simp,λs hs=>?_,λcc s=>?_,Nat.le_refl _⟩,?_⟩
 · rw[if_neg (λh=>Nat.not_lt_zero _ h.1)]
   simp[oAt,hs]
 · simp
 clear S0
 intro mm n22
 refine aE.of ?_ _
 rintro wl ⟨i,out,ha,hn,hc',H,rfl,hi,rfl,S,hol,hout,hH,hHl⟩
 have hac:=(h.below S.bw).ac
 refine ae.of (λh5=>?_) (λh5=>?_) <;> simp only[dTx,dFx]at h5
 · have hlt:i<d.n:=by omega
   have hlt':i<d.ac.length:=hlt
   refine⟨⟨⟨by omega,h5⟩,hac.isSome hlt'⟩,_,hac.tru di hlt',?_⟩
   have eacc:d.ac[i]=d.acc i:=by
     unfold DA.acc
     rw[List.getD_eq_getElem?_getD,List.getElem?_eq_getElem hlt'];rfl
   rw[eacc]
   refine ae.of (λhb=>?_) (λhb=>?_)
   · have hio:i<out.length:=by omega
     obtain⟨wx,sx,ox,gx⟩:=S.out.store ij (λ_ _ h=>h) (i:=(i:Int)) (by rw[Int.toNat_natCast];exact hio) (k:=1) rfl (v:=vI 0) (x:=0) eX
     rw[Int.toNat_natCast]at ox
     have S2:=S.put ox gx
     refine⟨⟨⟨by omega,h5⟩,S.out.all.isSome hio⟩,wx,sx,?_⟩
     refine av (tI S2.hp (by rw[List.length_map];omega) ((0:Int),((i:Nat):Int))) ?_
     rintro _ w35 ⟨rfl,ha2,hn2,hc2,xs',hp,H2,hch,hf⟩
     obtain⟨H',eH,hperm⟩:=wg (H:=(0,i)::H) (show xs'.Perm (((0,i)::H).map nl) from hp)
     have S3:=S2.bag (H':=H') (by rw[eH];exact H2) hch hf
     refine⟨rfl,d.n-(i+1),by omega,i+1,_,ha2,hn2,hc2,H',by rw[wrap_i64 (by omega) (by omega)];omega,hlt,rfl,S3,by rw[List.length_set];exact hol,λs hs=>?_,λcc s=>?_,?_⟩
     · by_cases e1:i=s
       · subst e1
         rw[cR hio,if_pos ⟨by omega,hb⟩]
       · rw[ct e1,hout s hs]
         by_cases e2:s<i/\d.acc s=true
         · rw[if_pos e2,if_pos ⟨by omega,e2.2⟩]
         · rw[if_neg e2,if_neg (λh=>e2 ⟨by omega,h.2⟩)]
     · rw[hperm.mem_iff,List.mem_cons,hH]
       constructor
       · rintro(e1|⟨e1,e2,e3⟩)
         · obtain⟨rfl,rfl⟩:=Prod.mk.inj e1
           exact⟨rfl,by omega,hb⟩
         · exact⟨e1,by omega,e3⟩
       · rintro⟨rfl,e2,e3⟩
         by_cases e4:s=i
         · exact .inl (by rw[e4])
         · exact .inr ⟨rfl,by omega,e3⟩
     · rw[hperm.length_eq,List.length_cons];omega
   · refine⟨d.n-(i+1),by omega,i+1,out,ha,hn,hc',H,by rw[wrap_i64 (by omega) (by omega)];omega,hlt,rfl,S,hol,λs hs=>?_,λcc s=>?_,by omega⟩
     · rw[hout s hs]
       by_cases e2:s<i/\d.acc s=true
       · rw[if_pos e2,if_pos ⟨by omega,e2.2⟩]
       · rw[if_neg e2,if_neg (λh=>e2 ⟨?_,h.2⟩)]
         have:s≠i:=λe=>by rw[e,hb]at h;exact absurd h.2 (by simp)
         omega
     · rw[hH]
       refine and_congr_right λ_=>⟨λh=>⟨by omega,h.2⟩,λh=>⟨?_,h.2⟩⟩
       have:s≠i:=λe=>by rw[e,hb]at h;exact absurd h.2 (by simp)
       omega
 have hin:i=d.n:=by omega
 subst hin
 have R0:Rnd d cs C out H:=Rnd.first hol (λs hs=>by rw[hout s hs];simp only[hs,true_and]) hH
 refine⟨_,_,a,n,c,b,d.n,e,cg.load0 (cs:=[vI d.k,vI d.st,.slice a n c,.slice b d.n e]) S.dcp rfl,?_⟩
 refine av (Ba (h.below S.bw) hd) ?_
 rintro _ w38 ⟨wa,wn,wc,rfl,hway,b38⟩
 refine⟨wa,wn,wc,rfl,?_⟩
 obtain⟨s1,hs1⟩:∃s1,s1=wl.heap.size:=⟨_,rfl⟩
 obtain⟨s2,hs2⟩:∃s2,s2=w38.heap.size:=⟨_,rfl⟩
 have S1:Lf w [vI d.k,vI d.st,.slice a n c,.slice b d.n e] k2 k6 s1 s2 oa d.n d.n out ha hn hc' H wa wn wc ((List.range d.n).map (ff d d.nx.length)) w38:=
   { S.below b38 with
     way:=hway.mono λb hb hA=>⟨by omega,by omega⟩
     o2:=by have:=S.hp.var.lt;omega
     o3:=by have:=b38.size;omega
     o4:=by omega
     o5:=λg hg=>⟨(S.o5 g hg).1,.inl (by have:=S.hp.row.lt g hg;omega)⟩ }
 have hsum0:=Hz M out
 have hBd:H.length+DC M out <=d.n*(M+3):=by
   rw[hol]at hsum0
   have e1:d.n*(M+3)=d.n*(M+1)+2*d.n:=by rw[show M+3=(M+1)+2 by omega,Nat.mul_add];omega
   omega
 clear hway b38 S hs1 hs2 hout hH hHl
 refine⟨λm1 wl1=>∃(out:List Int) (ha:Option Addr) (hn hc':Nat) (H:Hp),m1=2*DC M out+H.length/\H.length+DC M out <=d.n*(M+3)/\Rnd d cs C out H/\Lf w [vI d.k,vI d.st,.slice a n c,.slice b d.n e] k2 k6 s1 s2 oa d.n d.n out ha hn hc' H wa wn wc ((List.range d.n).map (ff d d.nx.length)) wl1,
   ⟨_,out,ha,hn,hc',H,rfl,hBd,R0,S1⟩,?_⟩
 clear S1 R0 hBd hol hsum0
 clear out ha hn hc' H
 intro m1
 refine aE.of ?_ _
 rintro wl1 ⟨out,ha,hn,hc',H,rfl,hBd,R,S⟩
 have hhl:=S.hp.row.len
 rw[List.length_map]at hhl
 have hol:=R.inv.len
 refine⟨ha,hn,hc',S.hp.var.load1 be rfl rfl,ae.of (λh6=>?_) (λh6=>?_)⟩ <;> simp only[gt_iff_lt,dTx,dFx]at h6
 · have hHl:0<(H.map nl).length:=by rw[List.length_map];omega
   refine av (Di S.hp (by rw[List.length_map];omega) hHl) ?_
   rintro _ w43 ⟨p,ys,rfl,hp,H43,hch⟩
   obtain⟨q,Y,rfl,rfl,hperm⟩:=IM hp
   obtain⟨c0,st⟩:=q
   have hlen:=hperm.length_eq
   rw[List.length_cons]at hlen
   have S43:=S.bag (H':=Y) H43 hch (λg hg=>.inl hg)
   refine⟨_,rfl,c0,((st:Nat):Int),ve (nl (c0,st)) w43,?_⟩
   intro k10 w10 hk10 hw10
   have b10:=(hw10▸af w43 _:bW w43 w10)
   obtain⟨wx1,sx1,P10,g10⟩:=tu.store0 (P:=prog) (cs:=[vI c0,vI ((st:Nat):Int)]) rfl (aN rfl (aN rfl hQ)) (ak.new hk10 hw10:ak w10 k10 aC [vI 0,vI 0]) rfl
   have bx1:bW w43 wx1:=Below.put b10 g10 (by omega)
   have Sx:=S43.below bx1
   have hst:st<d.n:=(R.hin _ (hperm.mem_iff.2 List.mem_cons_self)).1
   have hsto:st<out.length:=by omega
   have k10a:∀g,bu ha=some g->g≠k10:=λg hg=>by have:=S43.hp.row.lt g hg;omega
   have k10o:∀g,bu oa=some g->g≠k10:=λg hg=>by have:=S43.out.lt g hg;omega
   have k10v:k6≠k10:=by have:=S43.hp.var.lt;omega
   refine⟨wx1,sx1,rfl,c0,λu hu=>(P10.below hu).load1 aI rfl rfl,rfl,((st:Nat):Int),λu hu=>(P10.below hu).load1 aI rfl rfl,⟨⟨by omega,by omega⟩,Sx.out.all.isSome hsto⟩,oAt out st,λu hu=>by rw[<- Dq hsto];exact((Sx.below hu).out.all).num aI hsto,λwq hq=>?_⟩
   have Sq:=Sx.below hq
   have Pq:=P10.below hq
   refine ae.of (λh7=>?_) (λh7=>?_) <;> simp only[gt_iff_lt,dTx,dFx]at h7
   · exact⟨2*DC M out+Y.length,by omega,out,ha,_,hc',Y,rfl,by omega,R.skip hperm h7,Sq⟩
   have R2:=R.take hd hC hperm h7
   have hwl:((List.range d.n).map (ff d d.nx.length)).length=d.n:=by simp
   have hst2:st<((List.range d.n).map (ff d d.nx.length)).length:=by rw[hwl];exact hst
   have hwn:=Sq.way.len
   obtain⟨v57,ld57,a57,l57,c57,ev57,S57⟩:=Sq.way.load1 (P:=prog) kj rfl rfl (i:=((st:Nat):Int)) (by rw[Int.toNat_natCast];exact hst2)
   have ev57:v57=.slice a57 l57 c57:=by simpa using ev57
   subst ev57
   have ew:((List.range d.n).map (ff d d.nx.length))[(((st:Nat):Int)).toNat]'(by rw[Int.toNat_natCast];exact hst2)=ff d d.nx.length st:=by
     simp
   rw[ew]at S57
   refine⟨rfl,((st:Nat):Int),Pq.load1 aI rfl rfl,⟨⟨by omega,by omega⟩,Sq.way.isSome hst2⟩,a57,l57,c57,ld57,?_⟩
   have hC2:d.n*(M+3) <=900000000000:=hM2
   have k10s:s2 <=k10:=by have:=S43.o4;omega
   refine⟨λm2 n59 wl2=>∃(j:Nat) (out':List Int) (ha':Option Addr) (hn' hc2:Nat) (Hh:Hp),n59=(j:Int)/\j <=(ff d d.nx.length st).length/\m2=(ff d d.nx.length st).length-j/\
       2*DC M out'+Hh.length<2*DC M out+H.length/\Hh.length+DC M out' <=d.n*(M+3)/\Mid d cs C out' Hh st c0 j/\
       Lf w [vI d.k,vI d.st,.slice a n c,.slice b d.n e] k2 k6 s1 s2 oa d.n d.n out' ha' hn' hc2 Hh wa wn wc ((List.range d.n).map (ff d d.nx.length)) wl2/\
       ak wl2 k10 aC [vI c0,vI ((st:Nat):Int)]/\(∀g,bu ha'=some g->g≠k10)/\Sl tP wl2 (λg=>s1 <=g/\g<s2) a57 l57 c57 (ff d d.nx.length st),
     ⟨_,0,out,ha,_,hc',Y,rfl,Nat.zero_le _,rfl,by omega,by omega,R2,Sq,Pq,k10a,S57⟩,?_⟩
   intro m2 n59
   refine aE.of ?_ _
   rintro wl2 ⟨j,out',ha',hn',hc2,Hh,rfl,hj,rfl,hmea,hbig,Mi,S2,P2,k10b,W57⟩
   have hwlen:=W57.len
   have hol':=Mi.inv.len
   refine ae.of (λh8=>?_) (λh8=>?_) <;> simp only[dTx,dFx]at h8
   · have hjl:j<(ff d d.nx.length st).length:=by omega
     obtain⟨f,x,efx,hf,hx,hto⟩:=(zj hd).1 (List.getElem_mem hjl)
     have hjq:(ff d d.nx.length st)[j]? =some ((f:Int),(x:Int)):=by rw[List.getElem?_eq_getElem hjl,efx]
     have hxc:x<cs.length:=by omega
     have hfo:f<out'.length:=by omega
     have hcx:=hc.at hxc
     have hfin:=Mi.fin
     have hlo0:=(Mi.inv.lo st Mi.lt).1
     rw[Mi.cost]at hlo0
     have hp:=W57.pair (P:=prog) Js hjl
     rw[efx]at hp
     refine⟨⟨⟨by omega,h8⟩,W57.isSome hjl⟩,(f:Int),(x:Int),hp,?_⟩
     intro k12 w12 hk12 hw12
     have b12:=(hw12▸af wl2 _:bW wl2 w12)
     obtain⟨wx2,sx2,P12,g12⟩:=Js.store0 (P:=prog) (cs:=[vI (f:Int),vI (x:Int)]) rfl (aN rfl (aN rfl hQ)) (ak.new hk12 hw12:ak w12 k12 dx [vI 0,vI 0]) rfl
     have bx2:bW wl2 wx2:=Below.put b12 g12 (by omega)
     have Sy:=S2.below bx2
     have Py:=P2.below bx2
     have hcst:cs[x]=cAt cs x:=Gb hxc
     refine⟨wx2,sx2,rfl,c0,λu hu=>(Py.below hu).load1 aI rfl rfl,rfl,(x:Int),λu hu=>(P12.below hu).load1 aI rfl rfl,⟨⟨by omega,by omega⟩,hs.isSome hxc⟩,cAt cs x,λu hu=>by rw[<- hcst];exact(hs.below (Sy.below hu).bw).num aI hxc,λwq1 hq1=>?_⟩
     have Sz:=Sy.below hq1
     have Pz:=P12.below hq1
     have Pk:=Py.below hq1
     have Wz:=(W57.below bx2).below hq1
     have hoz:out'[f]=oAt out' f:=Dq hfo
     have ew1:i64.wrap (c0+cAt cs x)=c0+cAt cs x:=wrap_i64 (by omega) (by omega)
     have ewj:i64.wrap (((j:Nat):Int)+1)=((j+1:Nat):Int):=by rw[wrap_i64 (by omega) (by have:=W57.le;omega)];omega
     rw[ew1,ewj]
     refine⟨rfl,(f:Int),Pz.load1 aI rfl rfl,⟨⟨by omega,by omega⟩,Sz.out.all.isSome hfo⟩,oAt out' f,by rw[<- hoz];exact Sz.out.all.num aI hfo,ae.of (λh9=>?_) (λh9=>?_)⟩ <;> simp only[dTx,dFx]at h9
     · obtain⟨wx3,sx3,ox3,gx3⟩:=Sz.out.store ij (λ_ _ h=>h) (i:=(f:Int)) (by rw[Int.toNat_natCast];exact hfo) (k:=1) rfl (v:=vI (c0+cAt cs x)) (x:=c0+cAt cs x) eX
       rw[Int.toNat_natCast]at ox3
       have S3:=Sz.put ox3 gx3
       have ne12:some k12≠bu oa:=λe=>by have:=S2.out.lt _ e.symm;omega
       have ne10:some k10≠bu oa:=λe=>k10o _ e.symm rfl
       refine⟨rfl,(f:Int),Pz.load1 aI rfl rfl,⟨⟨by omega,by omega⟩,Sz.out.all.isSome hfo⟩,wx3,sx3,rfl,(f:Int),(Pz.grown gx3 ne12).load1 aI rfl rfl,?_⟩
       refine av (tI S3.hp (by rw[List.length_map];omega) (c0+cAt cs x,(f:Int))) ?_
       rintro _ w89 ⟨rfl,ha3,hn3,hc3,xs3,hp3,H3,hch3,hf3⟩
       obtain⟨H4,eH4,hperm4⟩:=wg (H:=(c0+cAt cs x,f)::Hh) (show xs3.Perm (((c0+cAt cs x,f)::Hh).map nl) from hp3)
       have S4:=S3.bag (H':=H4) (by rw[eH4];exact H3) hch3 hf3
       have Mi2:=Mi.yes hd hc hC hk (H':=H4) hjq hf hx hto h9 (λp=>by rw[hperm4.mem_iff,List.mem_cons])
       have hl4:=hperm4.length_eq
       rw[List.length_cons]at hl4
       have hset:oAt (out'.set f (c0+cAt cs x)) f=c0+cAt cs x:=cR hfo _
       have hI:=tL
       have hle:=(Mi2.inv.bnd f hf (by rw[hset];omega)).leC (by have:=hC.lo;omega) hf
       rw[hset]at hle
       have hsum:=EI (M:=M) (v:=c0+cAt cs x) (out:=out') (f:=f) hfo (by omega) (by omega)
       have mem4:∀k:Nat,k∈k6::(bu ha').toList->k≠k10/\(k<s1\/s2 <=k):=λk hk=>by
         rcases List.mem_cons.1 hk with e|e
         · subst e;exact⟨k10v,.inl (by have:=S2.o2;omega)⟩
         · have e2:bu ha'=some k:=by simpa using e
           exact⟨k10b k e2,(S2.o5 k e2).2⟩
       refine⟨rfl,_,?_,j+1,_,ha3,hn3,hc3,H4,rfl,hjl,rfl,?_,?_,Mi2,S4,?_,λg hg=>?_,?_⟩
       · omega
       · omega
       · omega
       · exact hch3.arr (Pk.grown gx3 ne10) λhm=>(mem4 _ hm).1 rfl
       · rcases hf3 g hg with e|e
         · exact k10b g e
         · have:=(Pk.grown gx3 ne10).lt;omega
       · exact(Wz.keep (gI gx3 λg hg e=>(by have:=S2.o1 g e.symm;have:=S2.o2;omega))).keep (hch3.keep.mono λg hg hm=>by have:=(mem4 _ hm).2;omega)
     · exact⟨_,by omega,j+1,out',ha',hn',hc2,Hh,rfl,hjl,rfl,hmea,hbig,Mi.no hjq h9,Sz,Pk,k10b,Wz⟩
   · exact⟨2*DC M out'+Hh.length,by omega,out',ha',hn',hc2,Hh,rfl,hbig,Mi.over hd (by omega),S2⟩
 · have hHn:H=[]:=List.eq_nil_of_length_eq_zero (by omega)
   subst hHn
   refine⟨oa,d.n,d.n,out,rfl,S.out,R.left hd hc hC hk,λg hg=>?_,S.bw⟩
   have:=S.o1 g hg
   have:=S.o6
   omega
end Go.Pk
