/- What the laws lean on: HosE, RegB, RegC, HosB, HosC, HosF, LefP, ShoA, ShoB, ShoC, ShoD; what is used. Its conditions: none. -/
import Derived.Test.YtpafoodmpjlkhaaGreatDoorKG
set_option linter.unusedVariables false
set_option linter.unusedSimpArgs false
set_option linter.unusedSectionVars false
set_option maxRecDepth 100000
open Go.IntKind (i64)
open Go.Proofs.Tryz
namespace Go.Pk
open Go.RowKit (Below)
open Go.Proofs
def upD (k:Nat)(w:List Nat):DA:=⟨(k:Int),1,setRow k (w.length+1) ((w.length+2:Nat):Int) (Ia k w ((w.length+1:Nat):Int)++se k ((w.length+2:Nat):Int)) k,(J3 w).set (w.length+1) false++[true]⟩
def xH (ts:List Txt)(h:Hst)(itself:Bool):DA:=
 if h.kind≠1 then(if itself=true then chD (ts.length+1) (cH ts h) 0 else noD (ts.length+1))
 else if itself=true then chD (ts.length+1) (cH ts h) (((cH ts h).length+1:Nat):Int)else upD (ts.length+1) (cH ts h)
abbrev Mb:=KQ af aw aX
structure UpS (wB:World)(k10 lo:Nat)(d:DA)(a:Option Addr)(n c:Nat)(b:Option Addr)(m e:Nat)(W:World):Prop where
 mb:Mb W k10 a n c b m e d
 bel:bW wB W
 fa:∀g,bK a=some g->wB.heap.size <=g
 fb:∀g,bK b=some g->wB.heap.size <=g
 le:lo <=W.heap.size
set_option maxHeartbeats 1000000 in
theorem sF {h:Hst}(o:h.ok)(hn:h.name.length <=1000000){w:World}(he:Env w){p:Option Addr}{ts:List Txt}(hA:gB w p ts)(htl:ts.length <=511)(itself:Bool):
   Cf kJ #[.pointer p,h.v,.bool itself] w (Ret (eV (kB ts h) (xH ts h itself) w)):=by
 apply zP
 intro k4 w4 hk4 hw4 k6 w6 hk6 hw6
 have hb4:=(hw4▸ah w _:bW w w4)
 have hb6:=(hw6▸ah w4 _:bW w4 w6)
 have A4:am w4 k4 ai h.cells:=am.new hk4 hw4
 have A6:am w6 k6 af [vI 0,vI 0,.slice none 0 0,.slice none 0 0]:=am.new hk6 hw6
 have hB6:=ab hb4 hb6 hb4.size
 refine⟨_,aJ.load0 (A4.below hb6) (Hst.len o),?_⟩
 refine ax (sG o hn (he.step hB6) (hA.below hB6) (by omega)) ?_
 rintro v w17 ⟨hb17,hv⟩
 have hB:=ab hB6 hb17 hB6.size
 have hlt:=A6.lt
 have ho6:w.heap.size <=k6:=by have:=hb4.size;omega
 have hs17:=hb17.size
 cases hk:kB ts h with
 | false=>
   rw[if_neg (by rw[hk];simp)]at hv
   subst hv
   obtain⟨wx,s1,s2,g1⟩:=cX (A6.below hb17) rfl none 0 0 none 0 0 ⟨0,0,[],[]⟩
   exact⟨none,0,0,181,rfl,ae.yes rfl ⟨wx,s1,_,_,none,0,0,none,0,0,s2,eV.no (Below.put hB g1 ho6)⟩⟩
 | true=>
   rw[if_pos hk]at hv
   obtain⟨a,n,c,rfl,ho,hf⟩:=hv
   have hwl:=rI ts o hk
   have hlen:((ts.length:Int)+1)=((ts.length+1:Nat):Int):=by omega
   have hs17':Sl cI w17 kj a n c ((cH ts h).map fun(x:Nat)=>(x:Int)):=by rw[<- AN];exact ho.all
   have A4b:=(A4.below hb6).below hb17
   have A6b:=A6.below hb17
   refine⟨a,n,c,0,rfl,ae.no rfl ?_⟩
   have fin:∀{d:DA} {v:Value} {w21:World},d=xH ts h itself->vo w17 d v w21->∃(a1:Option Addr) (n1 c1:Nat) (b1:Option Addr) (m1 e1:Nat),v=.tuple #[daV a1 n1 c1 b1 m1 e1 d,vI 0]/\∃wx,(Instr.storeAt af (.pointer (some ⟨k6,0,none⟩)) (daV a1 n1 c1 b1 m1 e1 d)).run prog w21=.ok () wx/\
       (aR af (.pointer (some ⟨k6,0,none⟩))).run prog wx=.ok (daV a1 n1 c1 b1 m1 e1 d) wx/\eV true (xH ts h itself) w (.tuple #[daV a1 n1 c1 b1 m1 e1 d,vI 0]) wx:=by
     rintro d v w21 rfl ⟨a1,n1,c1,b1,m1,e1,rfl,O,hb21⟩
     obtain⟨wx,s1,s2,g1⟩:=cX (A6b.below hb21) rfl a1 n1 c1 b1 m1 e1 (xH ts h itself)
     exact⟨a1,n1,c1,b1,m1,e1,rfl,wx,s1,s2,eV.yes ⟨a1,n1,c1,b1,m1,e1,rfl,(O.put g1 (by omega)).mono hB.size,Below.put (ab hB hb21 hB.size) g1 ho6⟩⟩
   refine⟨λw'=>w'=w17/\ ¬ (h.kind≠1/\itself=true),⟨λb w'=>w'=w17/\b=(decide (h.kind≠1)&&itself),⟨rfl,h.kind,A4b.load1 aB rfl rfl,?_⟩,λb=>aC.of ?_ _⟩,aC.of ?_ _⟩
   · refine ae.of (λh1=>⟨rfl,?_⟩) (λh1=>⟨rfl,?_⟩)
     · have:h.kind≠1:=by simpa using h1
       simp[this]
     · have:h.kind=1:=by simpa using h1
       simp[this]
   · rintro wj ⟨rfl,rfl⟩
     refine ae.of (λh1=>?_) (λh1=>⟨rfl,λhc=>?_⟩)
     · rw[Bool.and_eq_true,dTx]at h1
       refine ax (cY p ts (by omega) wj (hA.below hB)) ?_
       rintro _ w31 ⟨rfl,hw31⟩
       rw[hw31];clear hw31 w31
       refine⟨_,rfl,?_⟩
       rw[hlen]
       refine ax (Cg hs17' (k:=ts.length+1) (by omega) (by omega) (lD ts h) (by omega)) ?_
       intro v w33 hD
       obtain⟨a1,n1,c1,b1,m1,e1,rfl,wx,s1,s2,hP⟩:=fin (by unfold xH;rw[if_pos h1.1,if_pos h1.2]) hD
       exact⟨_,_,a1,n1,c1,b1,m1,e1,_,rfl,wx,s1,_,_,a1,n1,c1,b1,m1,e1,s2,hP⟩
     · rw[hc.2,decide_eq_true hc.1]at h1;cases h1
   rintro wj ⟨hwj,hno⟩
   obtain rfl:w17=wj:=hwj.symm
   clear hwj
   refine⟨rfl,h.kind,A4b.load1 aB rfl rfl,ae.of (λh1=>?_) (λh1=>?_)⟩
   · have hk1:h.kind≠1:=by simpa using h1
     have hi: ¬ itself=true:=λhc=>hno ⟨hk1,hc⟩
     refine ax (cY p ts (by omega) w17 (hA.below hB)) ?_
     rintro _ w40 ⟨rfl,hw40⟩
     rw[hw40];clear hw40 w40
     refine⟨_,rfl,?_⟩
     rw[hlen]
     refine ax (wY (k:=ts.length+1) (by omega) (by omega)) ?_
     intro v w41 hD
     obtain⟨a1,n1,c1,b1,m1,e1,rfl,wx,s1,s2,hP⟩:=fin (by unfold xH;rw[if_pos hk1,if_neg hi]) hD
     exact⟨_,_,a1,n1,c1,b1,m1,e1,_,rfl,wx,s1,_,_,a1,n1,c1,b1,m1,e1,s2,hP⟩
   have hk1:h.kind=1:=by simpa using h1
   refine ax (cY p ts (by omega) w17 (hA.below hB)) ?_
   rintro _ w46 ⟨rfl,hw46⟩
   rw[hw46];clear hw46 w46
   refine⟨_,rfl,?_⟩
   rw[hlen]
   refine ax (xU hs17' (k:=ts.length+1) (by omega) (by omega) (lD ts h) (by omega)) ?_
   rintro _ w48 ⟨a1,n1,c1,b1,m1,e1,rfl,O,hb48⟩
   obtain⟨wn,hwn⟩:∃wn,wn=cH ts h:=⟨_,rfl⟩
   obtain⟨k,hkk⟩:∃k,k=ts.length+1:=⟨_,rfl⟩
   obtain⟨D,hD⟩:∃D,D=chD k wn ((wn.length+1:Nat):Int):=⟨_,rfl⟩
   rw[<- hwn,<- hkk,<- hD]at O
   rw[<- hwn,<- hkk,<- hD]
   rw[<- hwn]at hwl
   have hB48:=ab hB hb48 hB.size
   refine⟨_,_,a1,n1,c1,b1,m1,e1,_,rfl,?_⟩
   intro k10 w10 hk10 hw10
   have hb10:=(hw10▸ah w48 _:bW w48 w10)
   have A10:am w10 k10 af [vI 0,vI 0,.slice none 0 0,.slice none 0 0]:=am.new hk10 hw10
   obtain⟨wx,s3,v3,g3⟩:=bG.store0 (P:=prog) (cs:=daL a1 n1 c1 b1 m1 e1 D) rfl (fM _ _ _ _ _ _ _) A10 rfl
   have hbx:bW w48 wx:=Below.put hb10 g3 (by omega)
   have M0:Mb wx k10 a1 n1 c1 b1 m1 e1 D:=⟨v3,O.nx.below hbx,O.ac.below hbx,λg hg e=>by have:=O.nx.lt g hg;omega,λg hg e=>by have:=O.ac.lt g hg;omega,O.ne⟩
   have hBx:=ab hB48 hbx hB48.size
   have hs48:=hb48.size
   have hs10:=hb10.size
   have hsx:=hbx.size
   refine⟨wx,s3,?_⟩
   refine⟨λw'=>w'=wx/\itself=false,⟨λb w'=>w'=wx/\b=itself,ae.no rfl ⟨rfl,rfl⟩,λb=>aC.of ?_ _⟩,aC.of ?_ _⟩
   · rintro wj2 ⟨rfl,rfl⟩
     refine ae.of (λh2=>?_) (λh2=>⟨rfl,h2⟩)
     refine⟨_,_,a1,n1,c1,b1,m1,e1,bG.load0 (cs:=daL a1 n1 c1 b1 m1 e1 D) M0.var rfl,?_⟩
     have A6x:=(A6b.below hb48).below hbx
     obtain⟨w4x,s4,s5,g4⟩:=cX A6x rfl a1 n1 c1 b1 m1 e1 D
     have eD:D=xH ts h b:=by unfold xH;rw[if_neg (λhc=>hc hk1),if_pos h2,hD,<- hwn,<- hkk]
     refine⟨w4x,s4,_,_,a1,n1,c1,b1,m1,e1,s5,?_⟩
     rw[<- eD]
     exact eV.yes ⟨a1,n1,c1,b1,m1,e1,rfl,((O.below hbx).put g4 (by omega)).mono hB.size,Below.put hBx g4 ho6⟩
   rintro wj2 ⟨hwj,hi⟩
   obtain rfl:wx=wj2:=hwj.symm
   clear hwj
   have hm1:=O.ac.len
   have hn1:=O.nx.len
   have hacl:D.ac.length=wn.length+2:=by rw[hD];exact jg wn
   have hnxl:D.nx.length=(wn.length+2)*k:=by rw[hD];exact rL _ _ _
   have hkle:1 <=k/\k <=512:=by omega
   refine⟨rfl,b1,m1,e1,M0.var.load1 bf rfl rfl,rfl,b1,m1,e1,M0.var.load1 bf rfl rfl,?_⟩
   have hac:D.ac=List.replicate (wn.length+1) false++[true]:=by rw[hD];rfl
   have hsac:Sl lH wx kj b1 m1 e1 (List.replicate (wn.length+1) false++[true]):=by rw[<- hac];exact M0.ac.all
   refine ax (Ko hsac) ?_
   rintro _ w63 ⟨rfl,hw63⟩
   rw[hw63];clear hw63 w63
   refine⟨_,rfl,?_⟩
   have hAx:=hA.below hBx
   have hm1':((m1:Nat):Int)=((wn.length+2:Nat):Int):=by omega
   rw[hm1']
   refine⟨λW=>∃a' n' c',UpS w17 k10 wx.heap.size ⟨D.k,D.st,D.nx++se k ((wn.length+2:Nat):Int),D.ac⟩ a' n' c' b1 m1 e1 W,⟨rfl,a1,n1,c1,λu hu=>(M0.var.below hu).load1 aI rfl rfl,((ts.length:Int)+1),λu hu=>?_,λk67 hk67=>?_⟩,aC.of ?_ _⟩
   · refine(cY p ts (by omega) u (hAx.below hu)).mono ?_
     rintro e w' ⟨v,rfl,rfl,rfl⟩
     exact⟨rfl,Below.refl _ _⟩
   · refine⟨λaa ll cc W=>ll=k/\cc=k/\Sl cI W (λg=>wx.heap.size <=g) aa ll cc (se k ((wn.length+2:Nat):Int)),?_,?_,?_⟩
     · rintro aa ll cc x y ⟨rfl,rfl,hs⟩ hb
       exact⟨rfl,rfl,hs.below hb⟩
     · intro u70 hu hcell
       have hsl:Sl cI u70 kj (some ⟨k67,0,none⟩) 1 1 [((wn.length+2:Nat):Int)]:=by
         refine⟨rfl,Nat.le_refl _,by decide,.inr ⟨k67,0,rfl,(Array.getElem?_eq_some_iff.1 hcell).1,trivial,[vI ((wn.length+2:Nat):Int)],iK.one eE,λj hj=>?_⟩⟩
         rw[gR hcell,Nat.zero_add];simp
       rw[hlen,<- hkk]
       refine(rk hsl hkle.1 (by omega)).mono ?_
       rintro _ w70 ⟨_,rfl,a',rfl,ho',hf',hb'⟩
       refine⟨a',k,k,rfl,⟨rfl,rfl,ho'.sl (λb _ hb=>hb.elim) λg hg=>?_⟩,hb'⟩
       have:=hf' g hg
       have:=hu.size
       omega
     rintro aa ll cc wq hq ⟨hll,hcc,hs⟩ hcell
     rw[hll,hcc]at hs
     rw[hll,hcc]
     have Mq:=M0.below hq
     obtain⟨w71,a3,n3,c3,r71,o71,g71,f71⟩:=dh (ty:=ar) aI ff (by decide) Mq.nx (λ_ _ h=>h) (cm:=k) (hs.flat fG) (by rw[hnxl];simp[se];have:(wn.length+2)*k <=129*512:=Nat.mul_le_mul (by omega) (by omega);omega)
     have v71:=Mq.var.grown g71 λex=>M0.na k10 ex.symm rfl
     have hqs:=hq.size
     have kl:=M0.var.lt
     have hne3:∀g,bK a3=some g->g≠k10:=λg hg ex=>by
       rcases f71 g hg with h1|h1
       · exact M0.na g h1 ex
       · omega
     have o71b:=Mq.ac.other g71 λg hg ex=>M0.ne g ex hg
     obtain⟨w5,s5,v5,g5⟩:=v71.store iY (i:=2) (v:=.slice a3 n3 c3) rfl (by simp) (by intro c hc;simp[Value.cells]at hc;subst hc;rfl)
     have v5:am w5 k10 af [vI D.k,vI D.st,.slice a3 n3 c3,.slice b1 m1 e1]:=v5
     have old3:∀g,bK a3=some g->w17.heap.size <=g:=λg hg=>by
       rcases f71 g hg with h1|h1
       · exact O.fa g h1
       · omega
     have hb17x:bW w17 wx:=ab hb48 hbx hb48.size
     have hb17q:bW w17 wq:=ab hb17x hq hb17x.size
     have hb5:bW w17 w5:=(hb17q.grown g71 hb17q.size λg hg=>O.fa g hg).grown g5 (Nat.le_trans hb17q.size g71.size) λx ex=>by cases ex;omega
     refine⟨w71,a3,n3,c3,r71,rfl,w5,s5,a3,n3,c3,⟨v5,o71.put (λg hg ex=>hne3 g hg ex) g5,o71b.put (λg hg ex=>M0.nb g hg ex) g5,hne3,M0.nb,λg hg ex=>?_⟩,hb5,old3,O.fb,Nat.le_trans hqs (Nat.le_trans g71.size g5.size)⟩
     rcases f71 g hg with h1|h1
     · exact M0.ne g h1 ex
     · have:=M0.ac.lt g ex;omega
   rintro w74 ⟨a2,n2,c2,U0⟩
   have hBU:∀{W:World} {d:DA} {a2:Option Addr} {n2 c2:Nat} {b2:Option Addr} {m2 e2:Nat},UpS w17 k10 wx.heap.size d a2 n2 c2 b2 m2 e2 W->bW w W:=λU=>ab hB U.bel hB.size
   refine ax (cY p ts (by omega) w74 (hA.below (hBU U0))) ?_
   rintro _ w74' ⟨rfl,hw74⟩
   rw[hw74];clear hw74 w74'
   refine⟨_,rfl,?_⟩
   have hk10x:k10<wx.heap.size:=M0.var.lt
   obtain⟨nx0,hnx0⟩:∃nx0,nx0=D.nx++se k ((wn.length+2:Nat):Int):=⟨_,rfl⟩
   rw[<- hnx0]at U0
   have hnx0l:nx0.length=(wn.length+3)*k:=by rw[hnx0,List.length_append,hnxl,se,List.length_replicate,<- Nat.succ_mul]
   have hmul:(wn.length+3)*k=(wn.length+1)*k+k+k:=by rw[show wn.length+3=(wn.length+1)+1+1 from rfl,Nat.succ_mul,Nat.succ_mul]
   have hmul2:(wn.length+1)*k <=128*512:=Nat.mul_le_mul (by omega) (by omega)
   rw[hlen,<- hkk]
   refine⟨λm i W=>∃(j:Nat) (a2:Option Addr) (n2 c2:Nat),j <=k/\i=(j:Int)/\m=k-j/\UpS w17 k10 wx.heap.size ⟨D.k,D.st,setRow k (wn.length+1) ((wn.length+2:Nat):Int) nx0 j,D.ac⟩ a2 n2 c2 b1 m1 e1 W,⟨_,0,a2,n2,c2,by omega,rfl,rfl,U0⟩,?_⟩
   intro m i
   refine aC.of ?_ _
   rintro wl ⟨j,a4,n4,c4,hj,rfl,rfl,U⟩
   have hn4:=U.mb.nx.len
   have hn4':n4=(wn.length+3)*k:=by rw[hn4];show(setRow _ _ _ _ _).length=_;rw[rA];exact hnx0l
   refine ae.of (λh3=>?_) (λh3=>?_) <;> simp only[dTx,dFx]at h3
   · have hjk:j<k:=by omega
     have hw1:i64.wrap (((wn.length+1:Nat):Int)*((k:Nat):Int))=(((wn.length+1)*k:Nat):Int):=by
       rw[<- Int.natCast_mul];exact wrap_i64 (by omega) (by omega)
     have hw2:i64.wrap (i64.wrap (((wn.length+1:Nat):Int)*((k:Nat):Int))+(j:Int))=(((wn.length+1)*k+j:Nat):Int):=by
       rw[hw1,wrap_i64 (by omega) (by omega)];omega
     have hidx:(wn.length+1)*k+j<(setRow k (wn.length+1) ((wn.length+2:Nat):Int) nx0 j).length:=by rw[rA,hnx0l];omega
     refine⟨rfl,a4,n4,c4,λu hu=>(U.mb.var.below hu).load1 aI rfl rfl,((k:Nat):Int),λu hu=>?_,?_⟩
     · have h1:=cY p ts (by omega) u ((hA.below (hBU U)).below hu)
       rw[hlen,<- hkk]at h1
       refine h1.mono ?_
       rintro e w' ⟨v,rfl,rfl,rfl⟩
       exact⟨rfl,Below.refl _ _⟩
     rw[hw2]
     refine⟨⟨⟨by omega,by omega⟩,U.mb.nx.all.isSome hidx⟩,λwq hq=>?_⟩
     have Mq:=U.mb.below hq
     obtain⟨w6x,s6,o6,g6⟩:=Mq.nx.store (P:=prog) ff (i:=(((wn.length+1)*k+j:Nat):Int)) (k:=1) (λ_ _ h=>h) (by rw[Int.toNat_natCast];exact hidx) rfl (v:=vI ((wn.length+2:Nat):Int)) (x:=((wn.length+2:Nat):Int)) eE
     rw[Int.toNat_natCast]at o6
     refine⟨w6x,s6,k-(j+1),by omega,j+1,a4,n4,c4,by omega,by rw[wrap_i64 (by omega) (by omega)];omega,rfl,⟨⟨Mq.var.grown g6 (λex=>U.mb.na k10 ex.symm rfl),o6,Mq.ac.other g6 (λg hg ex=>U.mb.ne g ex hg),U.mb.na,U.mb.nb,U.mb.ne⟩,?_,U.fa,U.fb,?_⟩⟩
     · have h1:=ab U.bel hq U.bel.size
       exact h1.grown g6 h1.size λg hg=>U.fa g hg
     · exact Nat.le_trans U.le (Nat.le_trans hq.size g6.size)
   have hjk:j=k:=by omega
   subst hjk
   have kl:=U.mb.var.lt
   have hidx:(((wn.length+1:Nat):Int)).toNat<D.ac.length:=by rw[Int.toNat_natCast];omega
   refine⟨rfl,b1,m1,e1,U.mb.var.load1 bf rfl rfl,⟨⟨by omega,by omega⟩,U.mb.ac.all.isSome (i:=wn.length+1) (by show wn.length+1<D.ac.length;omega)⟩,?_⟩
   obtain⟨w7,s7,o7,g7⟩:=U.mb.ac.store (P:=prog) qO (i:=((wn.length+1:Nat):Int)) (k:=1) (λ_ _ h=>h) hidx rfl (v:=.bool false) (x:=false) vh
   rw[Int.toNat_natCast]at o7
   have v7:=U.mb.var.grown g7 (λex=>U.mb.nb k10 ex.symm rfl)
   have x7:=U.mb.nx.other g7 U.mb.ne
   have B7:bW w17 w7:=U.bel.grown g7 U.bel.size λg hg=>U.fb g hg
   have s7':wl.heap.size <=w7.heap.size:=g7.size
   have hac1:(D.ac.set (wn.length+1) false).length=wn.length+2:=by rw[List.length_set];exact hacl
   refine⟨w7,s7,rfl,b1,m1,e1,v7.load1 bf rfl rfl,?_⟩
   intro k95 w95 hk95 hw95
   have hb95:=(hw95▸ah w7 _:bW w7 w95)
   have hsrc:Src lH w95 NoB (some ⟨k95,0,none⟩) 1 [true]:=Src.new1F xW hk95 hw95 vh
   obtain⟨w96,b3,m3,e3,r96,o96,g96,f96⟩:=dh (ty:=aO) bf qO (by decide) (o7.below hb95) (λ_ _ h=>h) (cm:=1) hsrc (by rw[hac1];simp;omega)
   have v96:=(v7.below hb95).grown g96 λex=>U.mb.nb k10 ex.symm rfl
   have x96:=(x7.below hb95).other g96 U.mb.ne
   have s95:=hb95.size
   have hne3:∀g,bK b3=some g->g≠k10:=λg hg ex=>by
     rcases f96 g hg with h1|h1
     · exact U.mb.nb g h1 ex
     · omega
   have fb3:∀g,bK b3=some g->w17.heap.size <=g:=λg hg=>by
     rcases f96 g hg with h1|h1
     · exact U.fb g h1
     · have:=B7.size;omega
   obtain⟨w8,s8,v8,g8⟩:=v96.store z8 (i:=3) (v:=.slice b3 m3 e3) rfl (by simp) (by intro c hc;simp[Value.cells]at hc;subst hc;rfl)
   have v8:am w8 k10 af (daL a4 n4 c4 b3 m3 e3 (upD j wn)):=by
     have e1:D.k=(j:Int):=by rw[hD];rfl
     have e2:D.st=1:=by rw[hD];rfl
     rw[e1,e2]at v8
     exact v8
   have B96:bW w17 w96:=(ab B7 hb95 B7.size).grown g96 (ab B7 hb95 B7.size).size λg hg=>U.fb g hg
   have B8:bW w17 w8:=B96.grown g8 B96.size λx ex=>by cases ex;omega
   have x8:=x96.put (λg hg ex=>U.mb.na g hg ex) g8
   have o8:=o96.put (λg hg ex=>hne3 g hg ex) g8
   have eup:(⟨D.k,D.st,setRow j (wn.length+1) ((wn.length+2:Nat):Int) nx0 j,D.ac.set (wn.length+1) false++[true]⟩:DA)=upD j wn:=by
     unfold upD
     rw[hnx0,hD];rfl
   have e8n:(upD j wn).nx=setRow j (wn.length+1) ((wn.length+2:Nat):Int) nx0 j:=by rw[<- eup]
   have e8a:(upD j wn).ac=D.ac.set (wn.length+1) false++[true]:=by rw[<- eup]
   obtain⟨w9,s9,s9',g9⟩:=cX (A6b.below B8) rfl a4 n4 c4 b3 m3 e3 (upD j wn)
   have eD:upD j wn=xH ts h itself:=by unfold xH;rw[if_neg (λhc=>hc hk1),if_neg (by rw[hi];simp),<- hwn,<- hkk]
   refine⟨w96,b3,m3,e3,r96,rfl,w8,s8,_,_,a4,n4,c4,b3,m3,e3,bG.load0 (cs:=daL a4 n4 c4 b3 m3 e3 (upD j wn)) v8 rfl,w9,s9,_,_,a4,n4,c4,b3,m3,e3,s9',?_⟩
   rw[<- eD]
   have OO:zb w17.heap.size w8 a4 n4 c4 b3 m3 e3 (upD j wn):=⟨by rw[e8n];exact x8,by rw[e8a];exact o8,λg hg ex=>by
     rcases f96 g ex with h1|h1
     · exact U.mb.ne g hg h1
     · have:=x7.lt g hg;omega,U.fa,fb3⟩
   exact eV.yes ⟨a4,n4,c4,b3,m3,e3,rfl,(OO.put g9 (by omega)).mono hB.size,Below.put (ab hB B8 hB.size) g9 ho6⟩
theorem AM {h:Hst}(o:h.ok)(hn:h.name.length <=1000000){w:World}(he:Env w){p:Option Addr}{ts:List Txt}(hA:gB w p ts)(htl:ts.length <=511):
   Cf gj #[.pointer p,h.v] w (Ret (eV (kB ts h) (xH ts h false) w)):=by
 apply zO
 intro k3 w3 hk3 hw3 k4 w4 hk4 hw4
 have hb3:=(hw3▸ah w _:bW w w3)
 have hb4:=(hw4▸ah w3 _:bW w3 w4)
 have A3:am w3 k3 ai h.cells:=am.new hk3 hw3
 have A4:am w4 k4 af [vI 0,vI 0,.slice none 0 0,.slice none 0 0]:=am.new hk4 hw4
 have hB4:=ab hb3 hb4 hb3.size
 have hlt:=A4.lt
 have ho4:w.heap.size <=k4:=by have:=hb3.size;omega
 refine⟨_,aJ.load0 (A3.below hb4) (Hst.len o),?_⟩
 refine ax (sF o hn (he.step hB4) (hA.below hB4) htl false) ?_
 intro v w8 hS
 cases hk:kB ts h with
 | false=>
   rw[hk]at hS
   obtain⟨rfl,hb8⟩:=hS
   obtain⟨wx,s1,s2,g1⟩:=cX (A4.below hb8) rfl none 0 0 none 0 0 ⟨0,0,[],[]⟩
   exact⟨_,_,none,0,0,none,0,0,_,rfl,wx,s1,_,_,none,0,0,none,0,0,s2,eV.no (Below.put (ab hB4 hb8 hB4.size) g1 ho4)⟩
 | true=>
   rw[hk]at hS
   obtain⟨a1,n1,c1,b1,m1,e1,rfl,O,hb8⟩:=hS
   obtain⟨wx,s1,s2,g1⟩:=cX (A4.below hb8) rfl a1 n1 c1 b1 m1 e1 (xH ts h false)
   exact⟨_,_,a1,n1,c1,b1,m1,e1,_,rfl,wx,s1,_,_,a1,n1,c1,b1,m1,e1,s2,eV.yes ⟨a1,n1,c1,b1,m1,e1,rfl,(O.put g1 hlt).mono hB4.size,Below.put (ab hB4 hb8 hB4.size) g1 ho4⟩⟩
theorem zx {h:Hst}(o:h.ok)(hn:h.name.length <=1000000){w:World}(he:Env w){p:Option Addr}{ts:List Txt}(hA:gB w p ts)(htl:ts.length <=511):
   Cf fv #[.pointer p,h.v] w (Ret (eV (kB ts h) (xH ts h true) w)):=by
 apply yv
 intro k3 w3 hk3 hw3 k4 w4 hk4 hw4
 have hb3:=(hw3▸ah w _:bW w w3)
 have hb4:=(hw4▸ah w3 _:bW w3 w4)
 have A3:am w3 k3 ai h.cells:=am.new hk3 hw3
 have A4:am w4 k4 af [vI 0,vI 0,.slice none 0 0,.slice none 0 0]:=am.new hk4 hw4
 have hB4:=ab hb3 hb4 hb3.size
 have hlt:=A4.lt
 have ho4:w.heap.size <=k4:=by have:=hb3.size;omega
 refine⟨_,aJ.load0 (A3.below hb4) (Hst.len o),?_⟩
 refine ax (sF o hn (he.step hB4) (hA.below hB4) htl true) ?_
 intro v w8 hS
 cases hk:kB ts h with
 | false=>
   rw[hk]at hS
   obtain⟨rfl,hb8⟩:=hS
   obtain⟨wx,s1,s2,g1⟩:=cX (A4.below hb8) rfl none 0 0 none 0 0 ⟨0,0,[],[]⟩
   exact⟨_,_,none,0,0,none,0,0,_,rfl,wx,s1,_,_,none,0,0,none,0,0,s2,eV.no (Below.put (ab hB4 hb8 hB4.size) g1 ho4)⟩
 | true=>
   rw[hk]at hS
   obtain⟨a1,n1,c1,b1,m1,e1,rfl,O,hb8⟩:=hS
   obtain⟨wx,s1,s2,g1⟩:=cX (A4.below hb8) rfl a1 n1 c1 b1 m1 e1 (xH ts h true)
   exact⟨_,_,a1,n1,c1,b1,m1,e1,_,rfl,wx,s1,_,_,a1,n1,c1,b1,m1,e1,s2,eV.yes ⟨a1,n1,c1,b1,m1,e1,rfl,(O.put g1 hlt).mono hB4.size,Below.put (ab hB4 hb8 hB4.size) g1 ho4⟩⟩
theorem JG {ok:Bool}{d:DA}{w:World}{v:Value}{w':World}(h:eV ok d w v w'):∃(err:Int) (D:DA) (a:Option Addr) (n c:Nat) (b:Option Addr) (m e:Nat),v=.tuple #[daV a n c b m e D,vI err]/\zb w.heap.size w' a n c b m e D/\bW w w'/\(ok=true/\err=0/\D=d\/ok=false/\err=181):=by
 unfold eV at h
 cases ok with
 | true=>
   rw[if_pos rfl]at h
   obtain⟨a,n,c,b,m,e,rfl,O,hb⟩:=h
   exact⟨0,d,a,n,c,b,m,e,rfl,O,hb,.inl ⟨rfl,rfl,rfl⟩⟩
 | false=>
   rw[if_neg (by decide)]at h
   obtain⟨rfl,hb⟩:=h
   exact⟨181,⟨0,0,[],[]⟩,none,0,0,none,0,0,rfl,⟨Ow.nil _ _ _ _,Ow.nil _ _ _ _,(λg hg=>by cases hg),bI.none _,bI.none _⟩,hb,.inr ⟨rfl,rfl⟩⟩
def HU (ts:List Txt)(h:Hst)(only:Bool):DA:=if only=true then chD (ts.length+1) (cH ts h) 0 else xH ts h true
def ofR (ts:List Txt)(c:Cky)(now:Int):Rgn:=
 ⟨HU ts c.host c.only,cW c.path,decide (now<c.exp) && !c.sec,decide (now<c.exp),decide (now<c.exp),decide (now<c.exp)&&(c.same !=3),decide (now<c.exp)&&(c.same==1)⟩
def Qy (ok:Bool)(r:Rgn)(er:Int)(w:World)(v:Value)(w':World):Prop:=bW w w'/\
 if ok=true then ∃x y,v=.tuple #[r.v x y,vI 0]/\RgO w.heap.size w' r x y else v=.tuple #[rg0.v rp0 rp0,vI er]
theorem Qm:Whl prog wP 2:=⟨⟨_,_,Hz⟩,by kernel_rfl⟩
theorem Qn:Whl prog wQ 3:=⟨⟨_,_,HA⟩,by kernel_rfl⟩
set_option maxHeartbeats 1000000 in
theorem Ar {c:Cky}(o:c.ok)(hn:c.host.name.length <=1000000)(hp:c.path.length <=60000){w:World}(he:Env w){p:Option Addr}{ts:List Txt}(hA:gB w p ts)(htl:ts.length <=511)(now:Int):
   Cf rV #[.pointer p,c.v,vI now] w (Ret (Qy (kB ts c.host) (ofR ts c now) 181 w)):=by
 apply F6
 intro k4 w4 hk4 hw4 k6 w6 hk6 hw6
 have b4:=(hw4▸ah w _:bW w w4)
 have b6:=(hw6▸ah w4 _:bW w4 w6)
 have A4:am w4 k4 bE c.cells:=am.new hk4 hw4
 have A6:am w6 k6 aj (rg0.cells rp0 rp0):=am.new hk6 hw6
 have B6:=ab b4 b6 b4.size
 have A46:=A4.below b6
 have s4:=b4.size
 have s6:=B6.size
 have l6:=A6.lt
 refine⟨λv8 W=>W=w6/\v8=.func (.func (if c.only=true then dF else fv)) #[] #[],⟨rfl,_,A46.load1 bv rfl (i:=20) (cO o 0),ae.of (λh=>⟨rfl,by rw[if_pos h]⟩) (λh=>⟨rfl,by rw[if_neg (by rw[h];decide)]⟩)⟩,λv8=>aC.of ?_ _⟩
 rintro wj ⟨rfl,rfl⟩
 refine⟨rfl,_,aJ.load A46 (i:=2) (us:=c.host.cells) (Hst.len o) (λj hj=>Bn o hj),?_⟩
 have hset:Cf (if c.only=true then dF else fv) #[.pointer p,c.host.v] wj (Ret (eV (kB ts c.host) (HU ts c.host c.only) wj)):=by
   unfold HU
   by_cases h:c.only=true
   · rw[if_pos h,if_pos h];exact vT o hn (he.step B6) (hA.below B6) htl
   · rw[if_neg h,if_neg h];exact zx o hn (he.step B6) (hA.below B6) htl
 have hcal:kF prog (if c.only=true then dF else fv)=true:=by
   by_cases h:c.only=true
   · rw[if_pos h];kernel_rfl
   · rw[if_neg h];kernel_rfl
 refine BE.of hcal (ax hset ?_)
 intro v w21 hv
 obtain⟨err,D,a,n,cc,b,m,e,rfl,O,b21,hcase⟩:=JG hv
 refine⟨_,_,a,n,cc,b,m,e,err,rfl,?_⟩
 intro k9 w9 hk9 hw9
 have B21:=ab B6 b21 B6.size
 have b9:=(hw9▸ah w21 _:bW w21 w9)
 have A9:am w9 k9 af [vI 0,vI 0,.slice none 0 0,.slice none 0 0]:=am.new hk9 hw9
 obtain⟨wx,q1,v1,g1⟩:=bG.store0 (P:=prog) (cs:=daL a n cc b m e D) rfl (fM _ _ _ _ _ _ _) A9 rfl
 have bx:bW w21 wx:=Below.put b9 g1 (by omega)
 have Bx:=ab B21 bx B21.size
 have b6x:=ab b21 bx b21.size
 have A4x:=A46.below b6x
 refine⟨wx,q1,rfl,_,A4x.load1 aA rfl (i:=21) (cO o 1),?_⟩
 refine ax (Nj c.path hp wx) ?_
 rintro _ w27 ⟨a1,n1,c1,b1,m1,e1,rfl,O1,b27⟩
 refine⟨_,_,a1,n1,c1,b1,m1,e1,_,rfl,?_⟩
 intro k11 w11 hk11 hw11
 have B27:=ab Bx b27 Bx.size
 have b11:=(hw11▸ah w27 _:bW w27 w11)
 have A11:am w11 k11 af [vI 0,vI 0,.slice none 0 0,.slice none 0 0]:=am.new hk11 hw11
 obtain⟨wy,q2,v2,g2⟩:=bG.store0 (P:=prog) (cs:=daL a1 n1 c1 b1 m1 e1 (cW c.path)) rfl (fM _ _ _ _ _ _ _) A11 rfl
 have by_:bW w27 wy:=Below.put b11 g2 (by omega)
 have bxy:=ab b27 by_ b27.size
 have By:=ab Bx bxy Bx.size
 refine⟨wy,q2,_,_,a,n,cc,b,m,e,bG.load0 (cs:=daL a n cc b m e D) (v1.below bxy) rfl,_,_,a1,n1,c1,b1,m1,e1,bG.load0 (cs:=daL a1 n1 c1 b1 m1 e1 (cW c.path)) v2 rfl,?_⟩
 intro k13 w13 hk13 hw13
 have b13:=(hw13▸ah wy _:bW wy w13)
 have A13:am w13 k13 aj (rg0.cells rp0 rp0):=am.new hk13 hw13
 have SH:DaS wy a n cc b m e D:=(O.das.below bx).below bxy
 have SP:DaS wy a1 n1 c1 b1 m1 e1 (cW c.path):=O1.das.below by_
 obtain⟨wz,q3,v3,g3⟩:=aE.store0 (P:=prog) (cs:=(⟨D,cW c.path,false,false,false,false,false⟩:Rgn).cells ⟨a,n,cc,b,m,e⟩ ⟨a1,n1,c1,b1,m1,e1⟩) rfl (Rgn.one _ _ _) A13 rfl
 have bz:bW wy wz:=Below.put b13 g3 (by omega)
 have byz:=ab b6x bxy b6x.size
 have A4z:=(A46.below byz).below bz
 refine⟨wz,q3,λW=>bW wy W/\am W k13 aj ((⟨D,cW c.path,decide (now<c.exp) && !c.sec,decide (now<c.exp),decide (now<c.exp),decide (now<c.exp)&&(c.same !=3),decide (now<c.exp)&&(c.same==1)⟩:Rgn).cells ⟨a,n,cc,b,m,e⟩ ⟨a1,n1,c1,b1,m1,e1⟩),⟨rfl,_,A4z.load1 kZ rfl (i:=25) (cO o 5),ae.of (λh=>?_) (λh=>?_)⟩,aC.of ?_ _⟩
 · obtain⟨wa,r1,u1,h1⟩:=Qm.store (P:=prog) (cs:=[.bool (!c.sec),.bool true]) rfl (aW rfl (aW rfl jA)) v3 (i:=8) (show 8+2 <=13 by decide)
   have ba:=Below.put bz h1 (by omega)
   have ne4:k4≠k13:=by have:=A46.lt;have:=byz.size;omega
   have A4a:=A4z.grown h1 (fH ne4)
   obtain⟨wb,r2,u2,h2⟩:=Qn.store (P:=prog) (cs:=[.bool true,.bool (c.same !=3),.bool (c.same==1)]) rfl (aW rfl (aW rfl (aW rfl jA))) u1 (i:=10) (show 10+3 <=13 by decide)
   refine⟨rfl,_,A4z.load1 bv rfl (i:=22) (cO o 2),rfl,wa,r1,rfl,_,A4a.load1 aB rfl (i:=24) (cO o 4),rfl,_,A4a.load1 aB rfl (i:=24) (cO o 4),rfl,wb,r2,Below.put ba h2 (by omega),?_⟩
   rw[h]
   exact u2
 · refine⟨bz,?_⟩
   rw[h]
   exact v3
 rintro wj2 ⟨bj,Aj⟩
 have Bj:=ab By bj By.size
 refine⟨_,aE.load0 Aj rfl,?_⟩
 have herr:i64.wrap err=err:=by rcases hcase with⟨_,h,_⟩|⟨_,h⟩ <;> rw[h] <;> rfl
 refine ax (JJ _ _ _ err 0 herr rfl wj2) ?_
 rintro _ w53 ⟨b53,rfl⟩
 have B53:=ab Bj b53 Bj.size
 have A6z:=(A6.below (ab byz bj byz.size)).below b53
 rcases hcase with⟨hk,rfl,rfl⟩|⟨hk,rfl⟩
 · rw[if_pos (by rfl)]
   obtain⟨wq,r3,u3,h3⟩:=aE.store0 (P:=prog) (cs:=(ofR ts c now).cells ⟨a,n,cc,b,m,e⟩ ⟨a1,n1,c1,b1,m1,e1⟩) rfl (Rgn.one _ _ _) A6z rfl
   refine⟨_,_,rfl,wq,r3,_,am.res (aE.load0 u3 rfl),Below.put B53 h3 (by omega),?_⟩
   rw[if_pos hk]
   have bq:bW w53 w53:=Below.refl _ _
   have k6a:∀g,bK a=some g->g≠k6:=λg hg=>by have:=O.fa g hg;omega
   refine⟨⟨a,n,cc,b,m,e⟩,⟨a1,n1,c1,b1,m1,e1⟩,rfl,?_,?_⟩
   · exact((((O.below bx).below bxy).below bj).below b53 |>.put h3 l6).mono B6.size
   · exact(((O1.below by_).below bj).below b53 |>.put h3 (by have:=b6x.size;omega)).mono Bx.size
 · rw[if_neg (by decide)]
   obtain⟨wq,r3,u3,h3⟩:=aE.store0 (P:=prog) (cs:=rg0.cells rp0 rp0) rfl (Rgn.one _ _ _) A6z rfl
   refine⟨_,_,rfl,wq,r3,_,am.res (aE.load0 u3 rfl),Below.put B53 h3 (by omega),?_⟩
   rw[if_neg (by rw[hk];decide)];rfl
def hasB (ts:List Txt)(r:Rgn)(q:Req):Bool:=
 mi q&&((if q.sec=true then r.s1 else r.s0)&&((if q.cross=0 then r.c0 else if q.cross=1 then r.c1 else r.c2)&&(dm r.h (hwV ts q.host)&&dm r.p (p9 q.path))))
theorem vi {W:World}{k:Nat}{r:Rgn}{x y:Rgp}(h:am W k aj (r.cells x y)):(Instr.loadAt af (.pointer (some ⟨k,0,none⟩))).run prog W=.ok (daV x.a x.n x.c x.b x.m x.e r.h) W:=
 bG.load h (i:=0) (us:=daL x.a x.n x.c x.b x.m x.e r.h) rfl λj hj=>by
   match j,hj with
   | 0,_=>rfl
   | 1,_=>rfl
   | 2,_=>rfl
   | 3,_=>rfl
   | j+4,hj=>omega
theorem vj {W:World}{k:Nat}{r:Rgn}{x y:Rgp}(h:am W k aj (r.cells x y)):(Instr.loadAt af (.pointer (some ⟨k,4,none⟩))).run prog W=.ok (daV y.a y.n y.c y.b y.m y.e r.p) W:=
 bG.load h (i:=4) (us:=daL y.a y.n y.c y.b y.m y.e r.p) rfl λj hj=>by
   match j,hj with
   | 0,_=>rfl
   | 1,_=>rfl
   | 2,_=>rfl
   | 3,_=>rfl
   | j+4,hj=>omega
def Ju (s:Txt):Bool:=match cQ (s++[46,120])with|some h=>(h.name==s++[46,120])&&((aH h).length==2)|none=>false
theorem L3 (s:Txt):Ju s=bs s:=by
 have hx:bs [120]=true:=by decide
 have hdx:cC [120]=false:=by decide
 cases hl:bs s with
 | true=>
   have e:Lib.join [s,[120]] [46]=s++[46,120]:=by rw[Bt,Lib.join_one]
   have hs:=(iT hl).2.1
   obtain⟨h1,h2,h3⟩:=ub (L:=[s,[120]]) (by simp) (by intro x hx';simp at hx';rcases hx' with rfl|rfl <;> assumption) hdx (by rw[e];simp;omega)
   unfold Ju
   rw[e]at h1 h3
   rw[h1]
   simp[h3]
 | false=>
   unfold Ju
   cases hv:cQ (s++[46,120])with
   | none=>rfl
   | some h=>
     simp only
     rw[Bool.eq_false_iff]
     intro hc
     rw[Bool.and_eq_true,beq_iff_eq,beq_iff_eq]at hc
     obtain⟨c1,c2⟩:=hc
     have o:=il hv
     have e:=(j8 o (d:=h) (by omega)).2
     have hm:s∈aH h:=by
       rw[c1,cy]at e
       rw[e,List.length_append]at c2
       rw[e]
       have e2:bS 46 [] [120]=[[120]]:=by decide
       rw[e2]at c2 ⊢
       have c3:(bS 46 [] s).length=1:=by simpa using c2
       obtain⟨x,ex⟩:=List.length_eq_one_iff.1 c3
       have hj:=jm 46 s []
       rw[ex,Lib.join_one,List.nil_append]at hj
       rw[ex,hj];simp
     have:=rb o s hm
     rw[hl]at this;cases this
theorem pW (s:Txt)(hs:s.length <=1000000)(w:World)(he:Env w):Cf lR #[vS s] w (Ret λv w'=>v=.bool (mE s)/\bW w w'):=by
 apply xu
 refine ax (nW s (by omega) w he) ?_
 rintro _ w7 ⟨rfl,hb7⟩
 unfold mE
 cases hv:cQ s with
 | none=>
   refine⟨_,_,rfl,λk3 w3 hk3 hw3=>?_⟩
   have hb3:=(hw3▸ah w7 _:bW w7 w3)
   have A3:am w3 k3 ai jf.cells:=am.new hk3 hw3
   obtain⟨wx,hs4,A4,g4⟩:=aJ.store0 (P:=prog) (cs:=jf.cells) rfl (Hst.one _) A3 rfl
   refine⟨wx,hs4,ae.no rfl ⟨rfl,ab hb7 (Below.put hb3 g4 (by omega)) hb7.size⟩⟩
 | some h=>
   have o:=il hv
   refine⟨_,_,rfl,λk3 w3 hk3 hw3=>?_⟩
   have hb3:=(hw3▸ah w7 _:bW w7 w3)
   have A3:am w3 k3 ai jf.cells:=am.new hk3 hw3
   obtain⟨wx,hs4,A4,g4⟩:=aJ.store0 (P:=prog) (cs:=h.cells) (Hst.len o) (Hst.one _) A3 rfl
   have hB:=ab hb7 (Below.put hb3 g4 (by omega)) hb7.size
   refine⟨wx,hs4,ae.yes rfl ⟨rfl,h.kind,A4.load1 aB rfl rfl,?_⟩⟩
   refine ae.of (λh1=>?_) (λh1=>⟨?_,hB⟩)
   · refine⟨_,aJ.load0 A4 (Hst.len o),?_⟩
     refine ax (uc o wx (he.step hB)) ?_
     rintro _ w9 ⟨rfl,hb9⟩
     refine⟨_,rfl,?_,ab hB hb9 hB.size⟩
     have:h.kind≠1:=by simpa using h1
     simp[this]
   · have:h.kind=1:=by simpa using h1
     simp[this]
theorem sH (s:Txt)(hs:s.length <=1000000)(w:World)(he:Env w):Cf kL #[vS s] w (Ret λv w'=>v=.bool (bs s)/\bW w w'):=by
 apply zR
 have hl:((s.length+[46,120].length:Nat):Int) <=i64.max:=by show((s.length+2:Nat):Int) <=9223372036854775807;omega
 refine⟨hl,?_⟩
 rintro _ rfl
 rw[<- L3]
 unfold Ju
 refine ax (nW (s++[46,120]) (by simp;omega) w he) ?_
 rintro _ w7 ⟨rfl,hb7⟩
 cases hv:cQ (s++[46,120])with
 | none=>
   refine⟨_,_,rfl,λk3 w3 hk3 hw3=>?_⟩
   have hb3:=(hw3▸ah w7 _:bW w7 w3)
   have A3:am w3 k3 ai jf.cells:=am.new hk3 hw3
   obtain⟨wx,hs4,A4,g4⟩:=aJ.store0 (P:=prog) (cs:=jf.cells) rfl (Hst.one _) A3 rfl
   refine⟨wx,hs4,ae.no rfl ⟨rfl,ab hb7 (Below.put hb3 g4 (by omega)) hb7.size⟩⟩
 | some h=>
   have o:=il hv
   refine⟨_,_,rfl,λk3 w3 hk3 hw3=>?_⟩
   have hb3:=(hw3▸ah w7 _:bW w7 w3)
   have A3:am w3 k3 ai jf.cells:=am.new hk3 hw3
   obtain⟨wx,hs4,A4,g4⟩:=aJ.store0 (P:=prog) (cs:=h.cells) (Hst.len o) (Hst.one _) A3 rfl
   have hB:=ab hb7 (Below.put hb3 g4 (by omega)) hb7.size
   refine⟨wx,hs4,ae.yes rfl ⟨rfl,h.name,A4.load1 aA rfl rfl,hl,?_⟩⟩
   rintro _ rfl
   refine ae.of (λh1=>?_) (λh1=>⟨?_,hB⟩)
   · refine⟨_,aJ.load0 A4 (Hst.len o),?_⟩
     have hn:h.name=s++[46,120]:=by simpa using h1
     refine ax (vQ o (by rw[hn];simp;omega) wx (he.step hB)) ?_
     rintro _ w9 ⟨a,n,c,rfl,ho,_,hb9⟩
     refine⟨_,_,_,rfl,?_,ab hB hb9 hB.size⟩
     rw[ho.len]
     simp only[h1,Bool.true_and]
     congr 1
     rw[Bool.eq_iff_iff,beq_iff_eq,beq_iff_eq]
     omega
   · simp[h1]
theorem ye (s:Txt)(hs:s.length <=1000000)(w:World)(he:Env w):Cf ct #[vS s] w (Ret λv w'=>v=.bool (!bs s)/\bW w w'):=by
 apply xt
 refine ax (sH s hs w he) ?_
 rintro _ w4 ⟨rfl,hb⟩
 exact⟨_,rfl,rfl,hb⟩
theorem Fh {w:World}(he:Env w){A:Bl}{a:Option Addr}{n c:Nat}{xs:List Txt}(hs:Sl tS w A a n c xs)(hx:∀x∈xs,x.length <=1000000):
   Cf bH #[.slice a n c,.func (.func ct) #[] #[]] w (Ret λv w'=>v=.bool (!xs.all bs)/\bW w w'):=by
 have hn:=hs.len
 subst hn
 have hle:=hs.le
 apply eF
 refine ax (K:=λv w'=>∃i:Int,v=vI i/\(decide (i >=0))=(!xs.all bs)/\bW w w') ?_ ?_
 · apply fk
   refine⟨λm i w'=>∃j:Nat,j <=xs.length/\i=(j:Int)/\m=xs.length-j/\(xs.take j).all bs=true/\bW w w',⟨_,0,by omega,rfl,rfl,rfl,Below.refl _ _⟩,?_⟩
   intro m i
   refine aC.of ?_ _
   rintro w' ⟨j,hj,rfl,rfl,hno,hB⟩
   refine ae.of (λh=>?_) (λh=>?_) <;> simp only[dTx,dFx]at h
   · have hlt:j<xs.length:=by omega
     have hs':=hs.below hB
     obtain⟨v,hv,hrep⟩:=hs'.load1 (P:=prog) (i:=(j:Int)) aA rfl rfl (by simpa using hlt)
     obtain⟨rfl,_⟩:=xz hrep
     simp only[Int.toNat_natCast]at hv
     refine⟨⟨⟨by omega,h⟩,hs'.isSome hlt⟩,_,hv,?_⟩
     refine ax (ye xs[j] (hx _ (List.getElem_mem hlt)) w' (he.step hB)) ?_
     rintro _ w3 ⟨rfl,hb3⟩
     have hB3:=ab hB hb3 hB.size
     refine⟨_,rfl,ae.of (λh3=>?_) (λh3=>?_)⟩
     · refine⟨_,rfl,?_,hB3⟩
       have:xs.all bs=false:=by
         rw[Bool.eq_false_iff]
         intro hc
         rw[List.all_eq_true.1 hc _ (List.getElem_mem hlt)]at h3;cases h3
       rw[this,decide_eq_true (by omega)];rfl
     · refine⟨xs.length-(j+1),by omega,j+1,by omega,by rw[wrap_i64 (by omega) (by omega)];omega,rfl,?_,hB3⟩
       rw[List.take_succ_eq_append_getElem hlt,List.all_append,hno]
       simpa using h3
   · have:j=xs.length:=by omega
     subst this
     rw[List.take_length]at hno
     exact⟨_,rfl,by rw[hno];decide,hB⟩
 · rintro _ w3 ⟨i,rfl,hi,hw3⟩
   exact⟨_,rfl,by rw[hi],hw3⟩
theorem DQ {P:Program}{a b:Tmp}{t u:TypeId}{ρ:Tmp->Value}{w:World}{v v2:Value}(h1:(aR t (ρ a)).run P w=.ok v w)(h2:(aR u (ρ b)).run P w=.ok v2 w):
   (Qs #[.cell a t,.cell b u] ρ).run P w=.ok (.tuple #[v,v2]) w:=by
 have e1:GI ρ (.cell a t)=aR t (ρ a):=rfl
 have e2:GI ρ (.cell b u)=aR u (ρ b):=rfl
 unfold Qs
 rw[Sem.run_bind,Array.mapM_eq_mapM_toList,Sem.run_map]
 simp only[List.mapM_cons,List.mapM_nil,e1,e2,Sem.run_bind,Sem.run_pure,Result.andThen_ok,h1,h2]
 rfl
section
variable {F:Fence} {n:Nat} {P:Program} {ops:Array Oper} {Q:Exit->Act->World->Prop} {a:Act} {w:World} {rest:List Oper} {o:Oper}
theorem ks (hw:Region.wanted o (yielded ops a.tmps)=false)(hF:∀g,F.fn g)(hK:wpListIn F n P ops Q rest (a.put o.dst undef) w):wpListIn F n P ops Q (o::rest) a w:=by
 simp only[wpListIn,hw]
 exact⟨λf _=>hF f,hK⟩
theorem lF (hw:Region.wanted o (yielded ops a.tmps)=true)(hd:∀c,o.op≠.defer c)(ha:o.about P w a.eval=none){b b':Bool}(hrun:(execOp a.eval o).run P w=.ok (.value (.bool b')) w)(hb:b'=b)(hK:wpListIn F n P ops Q rest (a.put o.dst (.bool b)) w):wpListIn F n P ops Q (o::rest) a w:=by
 subst hb;exact Cx hw hd ha hrun hK
end
theorem zk {P:Program}{tb:TypeId}{bytes:Nat}{z:Value}(tf:TF P tb 1 bytes z){w:World}{k:Nat}{t:TypeId}{x:Value}(h:am w k t [x])(b:Bool):∃w',(Instr.storeAt tb (.pointer (some ⟨k,0,none⟩)) (.bool b)).run P w=.ok () w'/\am w' k t [.bool b]/\w.grownBy w' (some k):=
 h.store tf (i:=0) (v:=.bool b) rfl (by simp) (by intro c hcc;simp[Value.cells]at hcc;subst hcc;rfl)
theorem GO:∀{L:List Txt},(∀x∈L,x.length <=1000)->jE L <=1001*L.length
 | [],_=>by simp[jE]
 | x::L,h=>by
   have h1:=h x List.mem_cons_self
   have h2:=GO (L:=L) λy hy=>h y (List.mem_cons_of_mem _ hy)
   simp only[jE,List.length_cons]
   omega
theorem NR {L:List Txt}(hl:L.length <=1000)(hx:∀x∈L,x.length <=1000):(Lib.join L [46]).length <=1001000:=by
 cases L with
 | nil=>rw[Lib.join_nil];simp
 | cons x r=>
   have h1:=zl r x
   have h2:=GO hx
   rw[List.length_cons]at hl h2
   omega
section
variable {L t:List Txt} (hL:L=t.reverse)
include hL
theorem Ap (hb:(decide (L.length=1)&&L.all mE)=true):eM t=cQ (Lib.join L [46]):=by
 subst hL
 rw[Bool.and_eq_true,dTx,List.length_reverse,List.all_reverse]at hb
 unfold eM
 rw[if_pos hb]
 obtain⟨x,rfl⟩:=List.length_eq_one_iff.1 hb.1
 rw[List.reverse_singleton,Lib.join_one];rfl
theorem zw (hb:(decide (L.length=1)&&L.all mE)=false): ¬ (t.length=1/\t.all mE=true):=by
 subst hL
 rintro⟨h1,h2⟩
 rw[List.length_reverse,List.all_reverse,h2,decide_eq_true h1]at hb
 cases hb
theorem LL (hb:(decide (L.length=1)&&L.all mE)=false)(ha:L.all bs=false):eM t=none:=by
 have:=zw hL hb
 subst hL
 rw[List.all_reverse]at ha
 unfold eM
 rw[if_neg this,ha];rfl
theorem GY (hb:(decide (L.length=1)&&L.all mE)=false)(ha:L.all bs=true){h:Hst}(hv:cQ (Lib.join L [46])=some h):eM t=if h.kind=1 then some h else none:=by
 have:=zw hL hb
 subst hL
 rw[List.all_reverse]at ha
 unfold eM
 rw[if_neg this,if_pos ha,hv]
theorem Kk {b:Bool}(hb:b=(decide (L.length=1)&&L.all mE))(hbl:b=true\/L.all bs=true)(hv:cQ (Lib.join L [46])=none):eM t=none:=by
 cases b with
 | true=>rw[Ap hL hb.symm];exact hv
 | false=>
   have:=zw hL hb.symm
   have ha:=hbl.resolve_left (by simp)
   subst hL
   rw[List.all_reverse]at ha
   unfold eM
   rw[if_neg this,if_pos ha,hv]
end
noncomputable def txs (ts:List Txt)(ws:List Int):List Txt:=ws.map (tr ts)
section
open Go.Pk Go.RowKit Go.Shelf
attribute [local go_sem] Oper.semAt_some
theorem Pl (a:Option Addr)(n c:Nat)(w:World):Cf 62 #[.slice a n c] w λe w'=>e=.returned (.func (.func 114) #[] #[.pointer (some ⟨w.heap.size,0,none⟩)])/\w'=w.alloc (.cells #[.slice a n c] ar):=by
 refine(pG a n c (K:=λv w'=>v=(.func (.func 114) #[] #[.pointer (some ⟨w.heap.size,0,none⟩)])/\w'=w.alloc (.cells #[.slice a n c] ar)) ?_).mono ?_
 · intro k1 w1 hk1 hw1
   subst hk1 hw1
   exact⟨rfl,rfl⟩
 · rintro e w' ⟨v,rfl,rfl,rfl⟩
   exact⟨rfl,rfl⟩
def Q5:List (List Nat):=[[0,1,2,3,4,5,6],[0,2,1,3,4,5,6],[1,0,2,3,4,5,6],[1,2,0,3,4,5,6],[1,2,3,0,4,5,6],[1,2,3,4,0,5,6],[2,0,1,3,4,5,6],[2,1,0,3,4,5,6],[2,1,3,0,4,5,6],[2,1,3,4,0,5,6]]
set_option maxRecDepth 100000 in
set_option maxHeartbeats 8000000 in
theorem CA {ws:List Int}{w:World}(he:Env w){p:Option Addr}{ts:List Txt}(hA:gB w p ts)(htl:ts.length <=100000){a:Option Addr}{n c:Nat}(hs:Sl cI w kj a n c ws)(hin:∀b o,a=some ⟨b,o,none⟩->b<w.heap.size)
   (hw0:∀x∈ws,0 <=x/\x <=(ts.length:Int)) (hwl:ws.length <=1000) (hxl:∀x∈txs ts ws,x.length <=1000):
   CallsIn Fence.wide 6 prog 28 #[.pointer p,.slice a n c] w λe w'=>e=.returned (.tuple #[((eM (txs ts ws)).getD jf).v,.bool (eM (txs ts ws)).isSome])/\bW w w':=by
 have hF:∀g:FuncId,Fence.wide.fn g:=λ_=>trivial
 have hn:=hs.len
 subst hn
 obtain⟨w1,hw1⟩:∃w1,w1=w.alloc (.cells (Value.cells (.pointer p)) bC):=⟨_,rfl⟩
 obtain⟨w2,hw2⟩:∃w2,w2=w1.alloc (.cells bA ai):=⟨_,rfl⟩
 obtain⟨w3,hw3⟩:∃w3,w3=w2.alloc (.cells #[.bool false] aX):=⟨_,rfl⟩
 obtain⟨w6,hw6⟩:∃w6,w6=w3.alloc (.cells #[.slice none 0 0] az):=⟨_,rfl⟩
 obtain⟨w7,hw7⟩:∃w7,w7=w6.alloc (.cells #[.slice a ws.length c] ar):=⟨_,rfl⟩
 obtain⟨k2,hk2⟩:∃k,k=w.heap.size:=⟨_,rfl⟩
 obtain⟨k4,hk4⟩:∃k,k=w1.heap.size:=⟨_,rfl⟩
 obtain⟨k5,hk5⟩:∃k,k=w2.heap.size:=⟨_,rfl⟩
 obtain⟨k6,hk6⟩:∃k,k=w3.heap.size:=⟨_,rfl⟩
 obtain⟨k7,hk7⟩:∃k,k=w6.heap.size:=⟨_,rfl⟩
 have b1:bW w w1:=hw1▸ah w _
 have b2:bW w1 w2:=hw2▸ah w1 _
 have b3:bW w2 w3:=hw3▸ah w2 _
 have b6:bW w3 w6:=hw6▸ah w3 _
 have b7:bW w6 w7:=hw7▸ah w6 _
 have s1:w1.heap.size=w.heap.size+1:=by rw[hw1];simp
 have s2:w2.heap.size=w1.heap.size+1:=by rw[hw2];simp
 have s3:w3.heap.size=w2.heap.size+1:=by rw[hw3];simp
 have s6:w6.heap.size=w3.heap.size+1:=by rw[hw6];simp
 have s7:w7.heap.size=w6.heap.size+1:=by rw[hw7];simp
 have A2:am w1 k2 bC [.pointer p]:=am.new hk2 hw1
 have A4:am w2 k4 ai jf.cells:=am.new hk4 hw2
 have A5:am w3 k5 aX [.bool false]:=am.new hk5 hw3
 have A6:am w6 k6 az [.slice none 0 0]:=am.new hk6 hw6
 have A7:am w7 k7 ar [.slice a ws.length c]:=am.new hk7 hw7
 have B6:bW w w6:=((b1.trans (b2.mono (by omega))).trans (b3.mono (by omega))).trans (b6.mono (by omega))
 have B7:bW w w7:=B6.trans (b7.mono (by omega))
 have A2':am w7 k2 bC [.pointer p]:=(((A2.below b2).below b3).below b6).below b7
 have A4':am w7 k4 ai jf.cells:=((A4.below b3).below b6).below b7
 have A5':am w7 k5 aX [.bool false]:=(A5.below b6).below b7
 have A6':am w7 k6 az [.slice none 0 0]:=A6.below b7
 refine callsIn_of_wp_marks func28 rfl trivial ?_ rfl
 simp only[Tryz.ntmps28,List.size_toArray,List.length_cons,List.length_nil,Nat.reduceAdd,Nat.reduceSub,Array.replicate_succ,Array.replicate_zero,List.push_toArray,List.append_toArray,List.nil_append,List.cons_append]
 have eB:=enters_of func62 (by kernel_rfl) rfl
 have eN:=enters_of func50 (by kernel_rfl) rfl
 have eT:=enters_of func52 (by kernel_rfl) rfl
 have eA:=enters_of func54 (by kernel_rfl) rfl
 have eC:=enters_of func63 (by kernel_rfl) rfl
 have eJ:=enters_of func66 (by kernel_rfl) rfl
 have eP:=enters_of func65 (by kernel_rfl) rfl
 refine xZ ?_
 apply wpIn_region_lit
 refine RB (by kernel_rfl) rfl (u:=.pointer p) (by kernel_rfl) hk2 hw1 ?_
 refine Es (by kernel_rfl) rfl (v:=.pointer (some ⟨k4,0,none⟩)) (w':=w2) (by rw[hk4,hw2];kernel_rfl) ?_
 refine Es (by kernel_rfl) rfl (v:=.pointer (some ⟨k5,0,none⟩)) (w':=w3) (by rw[hk5,hw3];kernel_rfl) ?_
 refine xK ?_
 refine xZ ?_
 apply wpIn_region_lit
 refine Es (by kernel_rfl) rfl (v:=.pointer (some ⟨k6,0,none⟩)) (w':=w6) (by rw[hk6,hw6];kernel_rfl) ?_
 refine xK ?_
 refine xZ ?_
 refine xZ ?_
 apply wpIn_region_lit
 refine dX (by kernel_rfl) (.inl rfl) (u:=.slice a ws.length c) (by kernel_rfl) ?_
 refine Am (by kernel_rfl) rfl (u:=.slice a ws.length c) (by kernel_rfl) (by decide) hF eB ((callsIn_wide.2 (Pl a ws.length c w6)).mono ?_)
 rintro _ w7' ⟨rfl,hw7'⟩
 rw[<- hw7]at hw7'
 rw[hw7']
 clear hw7' w7'
 rw[<- hk7]
 refine⟨_,rfl,?_⟩
 refine xK ?_
 simp only[Act.put,List.setIfInBounds_toArray,List.set_cons_succ,List.set_cons_zero]
 apply wpIn_block
 have hws:=hs.below B7
 have I0:KJ tS au az k6 w7.heap.size w7 (([]:List (Int×Int)).map λx=>tr ts x.2) w7:=⟨none,0,0,A6',Ow.nil _ _ _ _,(λg hg=>by cases hg),Below.refl _ _⟩
 refine wpIn_rangeFunc_ownG rfl (by decide) (gf:=114) (lb:= #[.pointer (some ⟨k7,0,none⟩)]) (by kernel_rfl) trivial (enters_of func114 (by kernel_rfl) rfl)
   (JZ Fence.wide 5 trivial rfl (by decide) k7 ws (by omega) A7 hws) (λh1 h2=>h1.trans h2) (λV l o o' hl _ _ _=>CF λb hb e=> ?hKb) (Below.refl _ _) (λ_=>rfl)
   (λpre V=>KJ tS au az k6 w7.heap.size w7 (pre.map λx=>tr ts x.2) V/\pre.length <=1000) (fun(_:Code) (pre:List (Int×Int)) (_:World)=>∃x∈pre,¬ (0 <=x.2/\x.2 <=(ts.length:Int))) (OwnFrom.and (Jc (by omega)) (ownFrom_pure _ _)) (λ_=>ownFrom_pure _ _) ⟨I0,by simp⟩
   (λx=> { tmps:= #[.pointer p,.slice a ws.length c,.pointer (some ⟨k2,0,none⟩),undef,.pointer (some ⟨k4,0,none⟩),.pointer (some ⟨k5,0,none⟩),.pointer (some ⟨k6,0,none⟩),undef,vI x.2,undef,undef,undef,.slice a ws.length c,.func (.func 114) #[] #[.pointer (some ⟨k7,0,none⟩)],vI x.1,vI x.2,undef,undef,undef,undef,undef,undef,undef,undef,undef,undef,undef,undef,undef,undef,undef,undef,undef,undef,undef,undef,undef,undef,undef,undef,undef,undef,undef,undef,undef,undef,undef,undef,undef,undef,undef,undef,undef,undef,undef,undef,undef,undef,undef,undef,undef,undef,undef,undef,undef,undef],defers:=[] }) ?assign ?body ?done ?stop
 case hKb=>
   rcases hb with rfl|⟨o2,e2⟩
   · omega
   · have:=hin b o2 e2;omega
 case assign=>
   intro l x V K hK
   apply wpIn_region_lit
   simp only[List.zip_toArray,List.foldl_toArray',List.foldl_toArray,List.zip_cons_cons,List.zip_nil_left,List.zip_nil_right,List.foldl_cons,List.foldl_nil,List.setIfInBounds_toArray,List.set_cons_succ,List.set_cons_zero]
   refine dX (by kernel_rfl) (.inr rfl) (u:=vI x.2) (by kernel_rfl) ?_
   exact QU hK
 case body=>
   rintro l pre x V ⟨hC,hlen0⟩ hlen
   have hwk:w.heap.size <=k6:=by omega
   have hCd:=hC.drew
   obtain⟨a1,n1,c1,C1,C2,C3,C4⟩:=hC
   have BV:bW w V:=B7.trans (C4.mono hwk)
   have hAV:gB V p ts:=hA.below BV
   have A2V:am V k2 bC [.pointer p]:=A2'.block (C4.block k2 (by omega))
   have A4V:am V k4 ai jf.cells:=A4'.block (C4.block k4 (by omega))
   have A5V:am V k5 aX [.bool false]:=A5'.block (C4.block k5 (by omega))
   have l2V:(Instr.loadAt bC (.pointer (some ⟨k2,0,none⟩))).run prog V=.ok (.pointer p) V:=A2V.load1 jD rfl rfl
   have qn:CallsIn Fence.wide (6-1-1-1) prog 50 #[.pointer p] V λe w'=>e=.returned (vI ((ts.length:Int)+1))/\w'=V:=
     (callsIn_wide.2 (cY p ts (by omega) V hAV)).mono λe w' ⟨v,he,hv,hw⟩=>⟨by rw[he,hv],hw⟩
   obtain⟨V4,q4,_,g4⟩:=aJ.store0 (P:=prog) (cs:=jf.cells) rfl (Hst.one _) A4V rfl
   obtain⟨V5,q5,_,g5⟩:=zk (P:=prog) qO (A5V.grown g4 (λe=>by cases e;omega)) false
   apply wpIn_block
   refine xZ ?_
   refine xZ ?_
   apply wpIn_region_lit
   refine dX (by kernel_rfl) (.inl rfl) (u:=vI x.2) (by kernel_rfl) ?_
   by_cases c0:x.2<0
   · refine lF (by kernel_rfl) (λc hc=>by cases hc) (by kernel_rfl) (b':=decide (x.2<0)) (by kernel_rfl) (decide_eq_true c0) ?_
     refine dX (by kernel_rfl) (.inl rfl) (u:=.bool true) (by kernel_rfl) ?_
     refine ks (by kernel_rfl) (λ_=>trivial) ?_
     try simp only[Act.put,List.setIfInBounds_toArray,List.set_cons_succ,List.set_cons_zero]
     refine ks (by kernel_rfl) (λ_=>trivial) ?_
     refine ks (by kernel_rfl) (λ_=>trivial) ?_
     refine ks (by kernel_rfl) (λ_=>trivial) ?_
     try simp only[Act.put,List.setIfInBounds_toArray,List.set_cons_succ,List.set_cons_zero]
     refine lF (by kernel_rfl) (λc hc=>by cases hc) (by kernel_rfl) (b':=true) (by kernel_rfl) rfl ?_
     refine xK ?_
     try simp only[Act.put,List.setIfInBounds_toArray,List.set_cons_succ,List.set_cons_zero]
     refine wpIn_cond_true (by kernel_rfl) ?_
     refine xZ ?_
     apply wpIn_region_lit
     refine Cx (by kernel_rfl) (λc hc=>by cases hc) (by kernel_rfl) (v:=jf.v) (w':=V) (by kernel_rfl) ?_
     refine dy (by kernel_rfl) rfl (by kernel_rfl) (by kernel_rfl) q4 ?_
     refine dy (by kernel_rfl) rfl (by kernel_rfl) (by kernel_rfl) q5 ?_
     try simp only[Act.put,List.setIfInBounds_toArray,List.set_cons_succ,List.set_cons_zero]
     refine xK ?_
     try simp only[Act.put,List.setIfInBounds_toArray,List.set_cons_succ,List.set_cons_zero]
     exact wpIn_ret ⟨KeepsFrom.trans (KeepsFrom.of_grownBy g4 (λj hj=>by cases hj;omega)) (KeepsFrom.of_grownBy g5 (λj hj=>by cases hj;omega)),x,by simp,by omega⟩
   refine lF (by kernel_rfl) (λc hc=>by cases hc) (by kernel_rfl) (b':=decide (x.2<0)) (by kernel_rfl) (decide_eq_false c0) ?_
   refine dX (by kernel_rfl) (.inl rfl) (u:=.bool false) (by kernel_rfl) ?_
   refine dX (by kernel_rfl) (.inl rfl) (u:=vI x.2) (by kernel_rfl) ?_
   try simp only[Act.put,List.setIfInBounds_toArray,List.set_cons_succ,List.set_cons_zero]
   refine dJ (by kernel_rfl) rfl (by kernel_rfl) l2V ?_
   refine Am (by kernel_rfl) rfl (u:=.pointer p) (by kernel_rfl) (by decide) (λ_=>trivial) eN (qn.mono ?_)
   rintro _ w' ⟨rfl,hw'⟩
   rw[hw']
   clear hw' w'
   refine⟨_,rfl,?_⟩
   try simp only[Act.put,List.setIfInBounds_toArray,List.set_cons_succ,List.set_cons_zero]
   by_cases c1:x.2 >=(ts.length:Int)+1
   · refine lF (by kernel_rfl) (λc hc=>by cases hc) (by kernel_rfl) (b':=decide (x.2 >=(ts.length:Int)+1)) (by kernel_rfl) (decide_eq_true c1) ?_
     refine lF (by kernel_rfl) (λc hc=>by cases hc) (by kernel_rfl) (b':=true) (by kernel_rfl) rfl ?_
     refine xK ?_
     try simp only[Act.put,List.setIfInBounds_toArray,List.set_cons_succ,List.set_cons_zero]
     refine wpIn_cond_true (by kernel_rfl) ?_
     refine xZ ?_
     apply wpIn_region_lit
     refine Cx (by kernel_rfl) (λc hc=>by cases hc) (by kernel_rfl) (v:=jf.v) (w':=V) (by kernel_rfl) ?_
     refine dy (by kernel_rfl) rfl (by kernel_rfl) (by kernel_rfl) q4 ?_
     refine dy (by kernel_rfl) rfl (by kernel_rfl) (by kernel_rfl) q5 ?_
     try simp only[Act.put,List.setIfInBounds_toArray,List.set_cons_succ,List.set_cons_zero]
     refine xK ?_
     try simp only[Act.put,List.setIfInBounds_toArray,List.set_cons_succ,List.set_cons_zero]
     exact wpIn_ret ⟨KeepsFrom.trans (KeepsFrom.of_grownBy g4 (λj hj=>by cases hj;omega)) (KeepsFrom.of_grownBy g5 (λj hj=>by cases hj;omega)),x,by simp,by omega⟩
   refine lF (by kernel_rfl) (λc hc=>by cases hc) (by kernel_rfl) (b':=decide (x.2 >=(ts.length:Int)+1)) (by kernel_rfl) (decide_eq_false c1) ?_
   refine lF (by kernel_rfl) (λc hc=>by cases hc) (by kernel_rfl) (b':=false) (by kernel_rfl) rfl ?_
   refine xK ?_
   try simp only[Act.put,List.setIfInBounds_toArray,List.set_cons_succ,List.set_cons_zero]
   refine wpIn_cond_false (by kernel_rfl) ?_
   refine wpIn_skip ?_
   obtain⟨a1,n1,c1',C1,C2,C3,C4⟩:=hCd
   have hAV':gB V.drew p ts:=hAV.below (bg V)
   have l2:(Instr.loadAt bC (.pointer (some ⟨k2,0,none⟩))).run prog V.drew=.ok (.pointer p) V.drew:=(A2V.below (bg V)).load1 jD rfl rfl
   have l6:(Instr.loadAt az (.pointer (some ⟨k6,0,none⟩))).run prog V.drew=.ok (.slice a1 n1 c1') V.drew:=C1.load1 cb rfl rfl
   have qc:=callsIn_wide (n:=6-1-1-1).2 (qM p ts htl x.2 V.drew hAV')
   have fin:∀Vc,Below V.drew.heap.size V.drew Vc->(Instr.loadAt az (.pointer (some ⟨k6,0,none⟩))).run prog Vc=.ok (.slice a1 n1 c1') Vc/\∃(kx:Nat) (V1:World),
       (Instr.buildSlice az 1 #[(0,vS (tr ts x.2))]).run prog Vc=.ok (.slice (some ⟨kx,0,none⟩) 1 1) V1/\(Instr.loadAt az (.pointer (some ⟨k6,0,none⟩))).run prog V1=.ok (.slice a1 n1 c1') V1/\
       ∃(V2:World) (a2:Option Addr) (n2 c2:Nat),(Builtin.append_ #[az,az] az #[.slice a1 n1 c1',.slice (some ⟨kx,0,none⟩) 1 1]).run prog V1=.ok (.slice a2 n2 c2) V2/\
       ∃V3:World,(Instr.storeAt az (.pointer (some ⟨k6,0,none⟩)) (.slice a2 n2 c2)).run prog V2=.ok () V3/\∀{aa:Act},(Exit.inBlock 1 (ownPostG w7.heap.size (vJ λb=>b=k7\/∃o,a=some ⟨b,o,none⟩) (λpre V=>KJ tS au az k6 w7.heap.size w7 (pre.map λx=>tr ts x.2) V/\pre.length <=1000) (fun(_:Code) (pre:List (Int×Int)) (_:World)=>∃x∈pre,¬ (0 <=x.2/\x.2 <=(ts.length:Int))) (pre++[x]) V)) .normal aa V3:=by
     intro Vc hbc
     have C1c:=C1.below hbc
     have C2c:=C2.below hbc
     have C4c:Below k6 w7 Vc:=C4.trans (hbc.mono (by have:=C4.size;omega))
     obtain⟨V1,hV1⟩:∃V1,V1=Vc.alloc (.cells #[vS (tr ts x.2)] au):=⟨_,rfl⟩
     have bV:bW Vc V1:=hV1▸ah _ _
     obtain⟨V2,a2,n2,c2,q2,V3,q3,C',kf,oth⟩:=GK (j5 _) cb pJ (by decide) HB C1c C2c C3 C4c (by omega) C4c.size rfl hV1 (show tS.rep Vc NoB [vS (tr ts x.2)] (tr ts x.2) from⟨rfl,trivial⟩) (by rw[List.length_map];omega)
     refine⟨C1c.load1 cb rfl rfl,_,V1,by rw[hV1];exact L7 _ Vc,(C1c.below bV).load1 cb rfl rfl,V2,a2,n2,c2,q2,V3,q3,?_⟩
     intro aa
     have sV:V.heap.size <=Vc.heap.size:=hbc.size
     refine⟨⟨Nat.le_trans sV kf.size,λk o hk h1 h2=>kf.same k o hk ((hbc.block k (Array.getElem?_eq_some_iff.1 h1).1).trans h1) h2⟩,⟨Nat.le_trans sV kf.size,λb hb hab=>?_⟩,?_,by simp;omega⟩
     · refine(?_:V3.heap[b]? =Vc.heap[b]?).trans (hbc.block b hb)
       rcases hab with rfl|⟨o2,e2⟩
       · exact oth b (by omega) (by omega)
       · have:=hin b o2 e2
         exact oth b (by omega) (by omega)
     · rw[List.map_append];exact C'
   refine LD rfl Q5 (by kernel_rfl) ?_
   intro ord hord
   simp only[Q5,List.mem_cons,List.not_mem_nil,or_false]at hord
   rcases hord with rfl|rfl|rfl|rfl|rfl|rfl|rfl|rfl|rfl|rfl
   all_goals simp only[List.filterMap_cons,List.filterMap_nil,List.getElem?_toArray,List.getElem?_cons_zero,List.getElem?_cons_succ]
   · refine dJ (by kernel_rfl) rfl (by kernel_rfl) l6 ?_
     refine dJ (by kernel_rfl) rfl (by kernel_rfl) l2 ?_
     refine dX (by kernel_rfl) (.inl rfl) (u:=vI x.2) (by kernel_rfl) ?_
     refine js (by kernel_rfl) rfl (u:=.pointer p) (v:=vI x.2) (by kernel_rfl) (by kernel_rfl) (by decide) (λ_=>trivial) eT (qc.mono ?_)
     rintro _ Vc ⟨_,rfl,rfl,hbc⟩
     obtain⟨l6c,kx,V1,qb,l6',V2,a2,n2,c2,q2,V3,q3,gfin⟩:=fin Vc hbc
     refine⟨_,rfl,?_⟩
     refine fS (by kernel_rfl) rfl (by kernel_rfl) qb ?_
     refine gy (by kernel_rfl) rfl (by kernel_rfl) (by kernel_rfl) q2 ?_
     exact dy (by kernel_rfl) rfl (by kernel_rfl) (by kernel_rfl) q3 (wpListIn_nil gfin)
   · refine dJ (by kernel_rfl) rfl (by kernel_rfl) l6 ?_
     refine dX (by kernel_rfl) (.inl rfl) (u:=vI x.2) (by kernel_rfl) ?_
     refine dJ (by kernel_rfl) rfl (by kernel_rfl) l2 ?_
     refine js (by kernel_rfl) rfl (u:=.pointer p) (v:=vI x.2) (by kernel_rfl) (by kernel_rfl) (by decide) (λ_=>trivial) eT (qc.mono ?_)
     rintro _ Vc ⟨_,rfl,rfl,hbc⟩
     obtain⟨l6c,kx,V1,qb,l6',V2,a2,n2,c2,q2,V3,q3,gfin⟩:=fin Vc hbc
     refine⟨_,rfl,?_⟩
     refine fS (by kernel_rfl) rfl (by kernel_rfl) qb ?_
     refine gy (by kernel_rfl) rfl (by kernel_rfl) (by kernel_rfl) q2 ?_
     exact dy (by kernel_rfl) rfl (by kernel_rfl) (by kernel_rfl) q3 (wpListIn_nil gfin)
   · refine dJ (by kernel_rfl) rfl (by kernel_rfl) l2 ?_
     refine dJ (by kernel_rfl) rfl (by kernel_rfl) l6 ?_
     refine dX (by kernel_rfl) (.inl rfl) (u:=vI x.2) (by kernel_rfl) ?_
     refine js (by kernel_rfl) rfl (u:=.pointer p) (v:=vI x.2) (by kernel_rfl) (by kernel_rfl) (by decide) (λ_=>trivial) eT (qc.mono ?_)
     rintro _ Vc ⟨_,rfl,rfl,hbc⟩
     obtain⟨l6c,kx,V1,qb,l6',V2,a2,n2,c2,q2,V3,q3,gfin⟩:=fin Vc hbc
     refine⟨_,rfl,?_⟩
     refine fS (by kernel_rfl) rfl (by kernel_rfl) qb ?_
     refine gy (by kernel_rfl) rfl (by kernel_rfl) (by kernel_rfl) q2 ?_
     exact dy (by kernel_rfl) rfl (by kernel_rfl) (by kernel_rfl) q3 (wpListIn_nil gfin)
   · refine dJ (by kernel_rfl) rfl (by kernel_rfl) l2 ?_
     refine dX (by kernel_rfl) (.inl rfl) (u:=vI x.2) (by kernel_rfl) ?_
     refine dJ (by kernel_rfl) rfl (by kernel_rfl) l6 ?_
     refine js (by kernel_rfl) rfl (u:=.pointer p) (v:=vI x.2) (by kernel_rfl) (by kernel_rfl) (by decide) (λ_=>trivial) eT (qc.mono ?_)
     rintro _ Vc ⟨_,rfl,rfl,hbc⟩
     obtain⟨l6c,kx,V1,qb,l6',V2,a2,n2,c2,q2,V3,q3,gfin⟩:=fin Vc hbc
     refine⟨_,rfl,?_⟩
     refine fS (by kernel_rfl) rfl (by kernel_rfl) qb ?_
     refine gy (by kernel_rfl) rfl (by kernel_rfl) (by kernel_rfl) q2 ?_
     exact dy (by kernel_rfl) rfl (by kernel_rfl) (by kernel_rfl) q3 (wpListIn_nil gfin)
   · refine dJ (by kernel_rfl) rfl (by kernel_rfl) l2 ?_
     refine dX (by kernel_rfl) (.inl rfl) (u:=vI x.2) (by kernel_rfl) ?_
     refine js (by kernel_rfl) rfl (u:=.pointer p) (v:=vI x.2) (by kernel_rfl) (by kernel_rfl) (by decide) (λ_=>trivial) eT (qc.mono ?_)
     rintro _ Vc ⟨_,rfl,rfl,hbc⟩
     obtain⟨l6c,kx,V1,qb,l6',V2,a2,n2,c2,q2,V3,q3,gfin⟩:=fin Vc hbc
     refine⟨_,rfl,?_⟩
     refine dJ (by kernel_rfl) rfl (by kernel_rfl) l6c ?_
     refine fS (by kernel_rfl) rfl (by kernel_rfl) qb ?_
     refine gy (by kernel_rfl) rfl (by kernel_rfl) (by kernel_rfl) q2 ?_
     exact dy (by kernel_rfl) rfl (by kernel_rfl) (by kernel_rfl) q3 (wpListIn_nil gfin)
   · refine dJ (by kernel_rfl) rfl (by kernel_rfl) l2 ?_
     refine dX (by kernel_rfl) (.inl rfl) (u:=vI x.2) (by kernel_rfl) ?_
     refine js (by kernel_rfl) rfl (u:=.pointer p) (v:=vI x.2) (by kernel_rfl) (by kernel_rfl) (by decide) (λ_=>trivial) eT (qc.mono ?_)
     rintro _ Vc ⟨_,rfl,rfl,hbc⟩
     obtain⟨l6c,kx,V1,qb,l6',V2,a2,n2,c2,q2,V3,q3,gfin⟩:=fin Vc hbc
     refine⟨_,rfl,?_⟩
     refine fS (by kernel_rfl) rfl (by kernel_rfl) qb ?_
     refine dJ (by kernel_rfl) rfl (by kernel_rfl) l6' ?_
     refine gy (by kernel_rfl) rfl (by kernel_rfl) (by kernel_rfl) q2 ?_
     exact dy (by kernel_rfl) rfl (by kernel_rfl) (by kernel_rfl) q3 (wpListIn_nil gfin)
   · refine dX (by kernel_rfl) (.inl rfl) (u:=vI x.2) (by kernel_rfl) ?_
     refine dJ (by kernel_rfl) rfl (by kernel_rfl) l6 ?_
     refine dJ (by kernel_rfl) rfl (by kernel_rfl) l2 ?_
     refine js (by kernel_rfl) rfl (u:=.pointer p) (v:=vI x.2) (by kernel_rfl) (by kernel_rfl) (by decide) (λ_=>trivial) eT (qc.mono ?_)
     rintro _ Vc ⟨_,rfl,rfl,hbc⟩
     obtain⟨l6c,kx,V1,qb,l6',V2,a2,n2,c2,q2,V3,q3,gfin⟩:=fin Vc hbc
     refine⟨_,rfl,?_⟩
     refine fS (by kernel_rfl) rfl (by kernel_rfl) qb ?_
     refine gy (by kernel_rfl) rfl (by kernel_rfl) (by kernel_rfl) q2 ?_
     exact dy (by kernel_rfl) rfl (by kernel_rfl) (by kernel_rfl) q3 (wpListIn_nil gfin)
   · refine dX (by kernel_rfl) (.inl rfl) (u:=vI x.2) (by kernel_rfl) ?_
     refine dJ (by kernel_rfl) rfl (by kernel_rfl) l2 ?_
     refine dJ (by kernel_rfl) rfl (by kernel_rfl) l6 ?_
     refine js (by kernel_rfl) rfl (u:=.pointer p) (v:=vI x.2) (by kernel_rfl) (by kernel_rfl) (by decide) (λ_=>trivial) eT (qc.mono ?_)
     rintro _ Vc ⟨_,rfl,rfl,hbc⟩
     obtain⟨l6c,kx,V1,qb,l6',V2,a2,n2,c2,q2,V3,q3,gfin⟩:=fin Vc hbc
     refine⟨_,rfl,?_⟩
     refine fS (by kernel_rfl) rfl (by kernel_rfl) qb ?_
     refine gy (by kernel_rfl) rfl (by kernel_rfl) (by kernel_rfl) q2 ?_
     exact dy (by kernel_rfl) rfl (by kernel_rfl) (by kernel_rfl) q3 (wpListIn_nil gfin)
   · refine dX (by kernel_rfl) (.inl rfl) (u:=vI x.2) (by kernel_rfl) ?_
     refine dJ (by kernel_rfl) rfl (by kernel_rfl) l2 ?_
     refine js (by kernel_rfl) rfl (u:=.pointer p) (v:=vI x.2) (by kernel_rfl) (by kernel_rfl) (by decide) (λ_=>trivial) eT (qc.mono ?_)
     rintro _ Vc ⟨_,rfl,rfl,hbc⟩
     obtain⟨l6c,kx,V1,qb,l6',V2,a2,n2,c2,q2,V3,q3,gfin⟩:=fin Vc hbc
     refine⟨_,rfl,?_⟩
     refine dJ (by kernel_rfl) rfl (by kernel_rfl) l6c ?_
     refine fS (by kernel_rfl) rfl (by kernel_rfl) qb ?_
     refine gy (by kernel_rfl) rfl (by kernel_rfl) (by kernel_rfl) q2 ?_
     exact dy (by kernel_rfl) rfl (by kernel_rfl) (by kernel_rfl) q3 (wpListIn_nil gfin)
   · refine dX (by kernel_rfl) (.inl rfl) (u:=vI x.2) (by kernel_rfl) ?_
     refine dJ (by kernel_rfl) rfl (by kernel_rfl) l2 ?_
     refine js (by kernel_rfl) rfl (u:=.pointer p) (v:=vI x.2) (by kernel_rfl) (by kernel_rfl) (by decide) (λ_=>trivial) eT (qc.mono ?_)
     rintro _ Vc ⟨_,rfl,rfl,hbc⟩
     obtain⟨l6c,kx,V1,qb,l6',V2,a2,n2,c2,q2,V3,q3,gfin⟩:=fin Vc hbc
     refine⟨_,rfl,?_⟩
     refine fS (by kernel_rfl) rfl (by kernel_rfl) qb ?_
     refine dJ (by kernel_rfl) rfl (by kernel_rfl) l6' ?_
     refine gy (by kernel_rfl) rfl (by kernel_rfl) (by kernel_rfl) q2 ?_
     exact dy (by kernel_rfl) rfl (by kernel_rfl) (by kernel_rfl) q3 (wpListIn_nil gfin)
 case done=>
   rintro D xs V hD hxs ⟨⟨a3,n3,c3,D1,D2,D3,D4⟩,_⟩ hK
   have eL:xs.map (λx=>tr ts x.2)=(txs ts ws).reverse:=by
     unfold txs
     rw[<- List.map_reverse,<- show xs.map Prod.snd=ws.reverse from hxs,List.map_map];rfl
   rw[eL]at D2
   have hwk:w.heap.size <=k6:=by omega
   have BV:bW w V:=B7.trans (D4.mono hwk)
   have A4V:am V k4 ai jf.cells:=A4'.block (D4.block k4 (by omega))
   have A5V:am V k5 aX [.bool false]:=A5'.block (D4.block k5 (by omega))
   have DV:D<V.heap.size:=(Array.getElem?_eq_some_iff.1 hK).1
   obtain⟨L,hL⟩:∃L,L=(txs ts ws).reverse:=⟨_,rfl⟩
   rw[<- hL]at D2
   have hLl:L.length <=1000:=by rw[hL,List.length_reverse];unfold txs;rw[List.length_map];exact hwl
   have hLx:∀x∈L,x.length <=1000:=λx hx=>hxl x (by rw[hL]at hx;simpa using hx)
   have n3e:n3=L.length:=D2.len
   subst n3e
   have back:∀{tm:Array Value} {V':World} {g:Hst} {b:Bool} {w4 w5:World},tm.getD 4 undef=.pointer (some ⟨k4,0,none⟩)->tm.getD 5 undef=.pointer (some ⟨k5,0,none⟩)->g.ok->bW V V'->V'.grownBy w4 (some k4)->am w4 k4 ai g.cells->w4.grownBy w5 (some k5)->am w5 k5 aX [.bool b]->
       (((eM (txs ts ws)).getD jf).v=g.v/\(eM (txs ts ws)).isSome=b)->
       LeavesInM Fence.wide 6 prog Tryz.f28 tm (λe w'=>e=.returned (.tuple #[((eM (txs ts ws)).getD jf).v,.bool (eM (txs ts ws)).isSome])/\bW w w') [{ target:=.collected D,args:= #[] }] .returning w5:=by
     intro tm V' g b w4 w5 t4 t5 og hbV g4 h4 g5 h5 he
     have s4:V'.heap.size <=w4.heap.size:=g4.size
     have hKD:w5.heap[D]? =some (.deferred (some [])):=by
       have h1:=hbV.size
       rw[g5.block D (by omega) (λe=>by cases e;omega),g4.block D (by omega) (λe=>by cases e;omega),hbV.block D DV];exact hK
     have gD:=grownBy_putObj' w5 D (.deferred none)
     have h4':am (w5.putObj D (.deferred none)) k4 ai g.cells:=(h4.grown g5 (λe=>by cases e;omega)).grown gD (λe=>by cases e;omega)
     have h5':am (w5.putObj D (.deferred none)) k5 aX [.bool b]:=h5.grown gD (λe=>by cases e;omega)
     have B5:bW w w5:=by
       have e1:=ab BV hbV BV.size
       refine(e1.grown g4 e1.size λx e=>by cases e;omega).grown g5 ?_ λx e=>by cases e;omega
       exact Nat.le_trans e1.size g4.size
     refine⟨by simp,.inl ⟨_,_,rfl,run_takeDeferred hKD,?_⟩⟩
     refine⟨_,DQ (v:=g.v) (v2:=.bool b) ?_ ?_,?_,B5.grown gD B5.size λx e=>by cases e;omega⟩
     · rw[t4];exact am.res (aJ.load0 h4' (Hst.len og))
     · rw[t5];exact am.res (h5'.load1 bv rfl rfl)
     · rw[he.1,he.2]
   have none_:∀{V':World},bW V V'->eM (txs ts ws)=none->
       ∃w4 w5,(Instr.storeAt ai (.pointer (some ⟨k4,0,none⟩)) jf.v).run prog V'=.ok () w4/\(Instr.storeAt aX (.pointer (some ⟨k5,0,none⟩)) (.bool false)).run prog w4=.ok () w5/\
       ∀{tm:Array Value},tm.getD 4 undef=.pointer (some ⟨k4,0,none⟩)->tm.getD 5 undef=.pointer (some ⟨k5,0,none⟩)->LeavesInM Fence.wide 6 prog Tryz.f28 tm (λe w'=>e=.returned (.tuple #[((eM (txs ts ws)).getD jf).v,.bool (eM (txs ts ws)).isSome])/\bW w w') [{ target:=.collected D,args:= #[] }] .returning w5:=by
     intro V' hbV hno
     obtain⟨w4,q4,h4,g4⟩:=aJ.store0 (P:=prog) (cs:=jf.cells) rfl (Hst.one _) (A4V.below hbV) rfl
     obtain⟨w5,q5,h5,g5⟩:=zk (P:=prog) qO ((A5V.below hbV).grown g4 (λe=>by cases e;omega)) false
     exact⟨w4,w5,q4,q5,λt4 t5=>back (g:=jf) t4 t5 rfl hbV g4 h4 g5 h5 ⟨by rw[hno];rfl,by rw[hno];rfl⟩⟩
   have some_:∀{V':World} {g:Hst},bW V V'->g.ok->eM (txs ts ws)=some g->
       ∃w4 w5,(Instr.storeAt ai (.pointer (some ⟨k4,0,none⟩)) g.v).run prog V'=.ok () w4/\(Instr.storeAt aX (.pointer (some ⟨k5,0,none⟩)) (.bool true)).run prog w4=.ok () w5/\
       ∀{tm:Array Value},tm.getD 4 undef=.pointer (some ⟨k4,0,none⟩)->tm.getD 5 undef=.pointer (some ⟨k5,0,none⟩)->LeavesInM Fence.wide 6 prog Tryz.f28 tm (λe w'=>e=.returned (.tuple #[((eM (txs ts ws)).getD jf).v,.bool (eM (txs ts ws)).isSome])/\bW w w') [{ target:=.collected D,args:= #[] }] .returning w5:=by
     intro V' g hbV og hsm
     obtain⟨w4,q4,h4,g4⟩:=aJ.store0 (P:=prog) (cs:=g.cells) (Hst.len og) (Hst.one _) (A4V.below hbV) rfl
     obtain⟨w5,q5,h5,g5⟩:=zk (P:=prog) qO ((A5V.below hbV).grown g4 (λe=>by cases e;omega)) true
     exact⟨w4,w5,q4,q5,λt4 t5=>back (g:=g) t4 t5 og hbV g4 h4 g5 h5 ⟨by rw[hsm];rfl,by rw[hsm];rfl⟩⟩
   refine PC (λa' W=>∃(x31 x32 x33 x34 x35 x36 x37 x38 x39:Value) (b:Bool),a'= { tmps:= #[.pointer p,.slice a ws.length c,.pointer (some ⟨k2,0,none⟩),undef,.pointer (some ⟨k4,0,none⟩),.pointer (some ⟨k5,0,none⟩),.pointer (some ⟨k6,0,none⟩),undef,undef,.bool b,undef,undef,.slice a ws.length c,.func (.func 114) #[] #[.pointer (some ⟨k7,0,none⟩)],undef,undef,undef,undef,undef,undef,undef,undef,undef,undef,undef,undef,undef,undef,undef,undef,undef,x31,x32,x33,x34,x35,x36,x37,x38,x39,undef,undef,undef,undef,undef,undef,undef,undef,undef,undef,undef,undef,undef,undef,undef,undef,undef,undef,undef,undef,undef,undef,undef,undef,undef,undef],defers:=[{ target:=.collected D,args:= #[] }] } /\b=(decide (L.length=1)&&L.all mE)/\bW V W) ?_ ?_
   · apply wpIn_region_lit
     have l6:(Instr.loadAt az (.pointer (some ⟨k6,0,none⟩))).run prog V=.ok (.slice a3 L.length c3) V:=D1.load1 cb rfl rfl
     refine dJ (by kernel_rfl) rfl (by kernel_rfl) l6 ?_
     refine Cx (by kernel_rfl) (λc hc=>by cases hc) (by kernel_rfl) (v:=vI ((L.length:Nat):Int)) (w':=V) (by kernel_rfl) ?_
     by_cases cc:L.length=1
     · obtain⟨x,hx⟩:=List.length_eq_one_iff.1 cc
       clear hL
       subst hx
       obtain⟨g,rfl⟩:∃g,a3=some ⟨g,0,none⟩:=by
         rcases D2.2.2.2 with⟨_,_,h⟩|⟨g,_,_,h,_⟩
         · cases h
         · exact⟨g,h⟩
       obtain⟨v,qv,hv⟩:=D2.all.load1 (P:=prog) (i:=0) aA rfl rfl (by simp)
       obtain⟨rfl,_⟩:=xz hv
       refine lF (by kernel_rfl) (λc hc=>by cases hc) (by kernel_rfl) (b':=true) (by kernel_rfl) rfl ?_
       try simp only[Act.put,List.setIfInBounds_toArray,List.set_cons_succ,List.set_cons_zero]
       refine dX (by kernel_rfl) (.inl rfl) (u:=.bool true) (by kernel_rfl) ?_
       refine dJ (by kernel_rfl) rfl (by kernel_rfl) l6 ?_
       refine Cx (by kernel_rfl) (λc hc=>by cases hc) (by kernel_rfl) (v:=.pointer (ao (some ⟨g,0,none⟩) 0 1)) (w':=V) (by kernel_rfl) ?_
       try simp only[Act.put,List.setIfInBounds_toArray,List.set_cons_succ,List.set_cons_zero]
       refine dJ (by kernel_rfl) rfl (by kernel_rfl) qv ?_
       refine Am (by kernel_rfl) rfl (u:=vS x) (by kernel_rfl) (by decide) hF eA ((callsIn_wide.2 (pW x (by have:=hLx x (by simp);omega) V (he.step BV))).mono ?_)
       rintro _ Vw ⟨_,rfl,rfl,hbw⟩
       refine⟨_,rfl,?_⟩
       try simp only[Act.put,List.setIfInBounds_toArray,List.set_cons_succ,List.set_cons_zero]
       refine Cx (by kernel_rfl) (λc hc=>by cases hc) (by kernel_rfl) (v:=.bool (mE x)) (w':=Vw) (by kernel_rfl) ?_
       refine dX (by kernel_rfl) (.inr rfl) (u:=.bool (mE x)) (by kernel_rfl) ?_
       apply QU
       exact⟨.slice (some ⟨g,0,none⟩) [x].length c3,vI (([x].length:Nat):Int),.bool true,.bool true,.slice (some ⟨g,0,none⟩) [x].length c3,.pointer (ao (some ⟨g,0,none⟩) 0 1),vS x,.bool (mE x),.bool (mE x),mE x,(by kernel_rfl),by simp,hbw⟩
     · refine lF (by kernel_rfl) (λc hc=>by cases hc) (by kernel_rfl) (b':=((L.length:Nat):Int)==1) (b:=false) (by kernel_rfl) (by rw[beq_eq_false_iff_ne];omega) ?_
       try simp only[Act.put,List.setIfInBounds_toArray,List.set_cons_succ,List.set_cons_zero]
       refine dX (by kernel_rfl) (.inl rfl) (u:=.bool false) (by kernel_rfl) ?_
       refine ks (by kernel_rfl) hF ?_
       refine ks (by kernel_rfl) hF ?_
       try simp only[Act.put,List.setIfInBounds_toArray,List.set_cons_succ,List.set_cons_zero]
       refine ks (by kernel_rfl) hF ?_
       refine ks (by kernel_rfl) hF ?_
       refine lF (by kernel_rfl) (λc hc=>by cases hc) (by kernel_rfl) (b':=false) (by kernel_rfl) rfl ?_
       try simp only[Act.put,List.setIfInBounds_toArray,List.set_cons_succ,List.set_cons_zero]
       refine dX (by kernel_rfl) (.inr rfl) (u:=.bool false) (by kernel_rfl) ?_
       apply QU
       exact⟨.slice a3 L.length c3,vI ((L.length:Nat):Int),.bool false,.bool false,undef,undef,undef,undef,.bool false,false,(by kernel_rfl),by simp[cc],Below.refl _ _⟩
   · rintro a' W ⟨x31,x32,x33,x34,x35,x36,x37,x38,x39,b,rfl,hb,BW⟩
     have B0W:bW w W:=ab BV BW BV.size
     refine PC (λa' W=>∃(x31 x32 x33 x34 x35 x36 x37 x38 x39 x40 x41 x42 x43 x44 x45:Value),a'= { tmps:= #[.pointer p,.slice a ws.length c,.pointer (some ⟨k2,0,none⟩),undef,.pointer (some ⟨k4,0,none⟩),.pointer (some ⟨k5,0,none⟩),.pointer (some ⟨k6,0,none⟩),undef,undef,.bool b,undef,undef,.slice a ws.length c,.func (.func 114) #[] #[.pointer (some ⟨k7,0,none⟩)],undef,undef,undef,undef,undef,undef,undef,undef,undef,undef,undef,undef,undef,undef,undef,undef,undef,x31,x32,x33,x34,x35,x36,x37,x38,x39,x40,x41,x42,x43,x44,x45,undef,undef,undef,undef,undef,undef,undef,undef,undef,undef,undef,undef,undef,undef,undef,undef,undef,undef,undef,undef],defers:=[{ target:=.collected D,args:= #[] }] } /\(b=true\/L.all bs=true)/\bW V W) ?_ ?_
     · have l6:(Instr.loadAt az (.pointer (some ⟨k6,0,none⟩))).run prog W=.ok (.slice a3 L.length c3) W:=(D1.below BW).load1 cb rfl rfl
       refine xZ ?_
       apply wpIn_region_lit
       refine dX (by kernel_rfl) (.inl rfl) (u:=.bool b) (by kernel_rfl) ?_
       cases b with
       | true=>
         refine lF (by kernel_rfl) (λc hc=>by cases hc) (by kernel_rfl) (b':=false) (by kernel_rfl) rfl ?_
         refine dX (by kernel_rfl) (.inl rfl) (u:=.bool false) (by kernel_rfl) ?_
         try simp only[Act.put,List.setIfInBounds_toArray,List.set_cons_succ,List.set_cons_zero]
         refine ks (by kernel_rfl) hF ?_
         refine ks (by kernel_rfl) hF ?_
         refine lF (by kernel_rfl) (λc hc=>by cases hc) (by kernel_rfl) (b':=false) (by kernel_rfl) rfl ?_
         try simp only[Act.put,List.setIfInBounds_toArray,List.set_cons_succ,List.set_cons_zero]
         refine xK ?_
         try simp only[Act.put,List.setIfInBounds_toArray,List.set_cons_succ,List.set_cons_zero]
         refine wpIn_cond_false (by kernel_rfl) ?_
         refine wpIn_skip ?_
         exact⟨x31,x32,x33,x34,x35,x36,x37,x38,x39,.bool true,.bool false,.bool false,undef,undef,.bool false,(by kernel_rfl),by first|exact .inl rfl|simp,BW⟩
       | false=>
         refine lF (by kernel_rfl) (λc hc=>by cases hc) (by kernel_rfl) (b':=true) (by kernel_rfl) rfl ?_
         refine dX (by kernel_rfl) (.inl rfl) (u:=.bool true) (by kernel_rfl) ?_
         refine dJ (by kernel_rfl) rfl (by kernel_rfl) l6 ?_
         try simp only[Act.put,List.setIfInBounds_toArray,List.set_cons_succ,List.set_cons_zero]
         refine js (by kernel_rfl) rfl (u:=.slice a3 L.length c3) (v:=.func (.func 64) #[] #[]) (by kernel_rfl) (by kernel_rfl) (by decide) hF eC ((callsIn_wide.2 (Fh (he.step B0W) (D2.below BW).all (λx hx=>by have:=hLx x hx;omega))).mono ?_)
         rintro _ Wc ⟨_,rfl,rfl,hbc⟩
         refine⟨_,rfl,?_⟩
         have BWc:=ab BW hbc BW.size
         rcases Bool.eq_false_or_eq_true (L.all bs)with hall|hall
         rotate_left
         ·
           obtain⟨w4,w5,q4,q5,hl⟩:=none_ BWc (LL hL hb.symm hall)
           refine lF (by kernel_rfl) (λc hc=>by cases hc) (by kernel_rfl) (b':= !L.all bs) (b:=true) (by kernel_rfl) (by simp[hall]) ?_
           refine xK ?_
           try simp only[Act.put,List.setIfInBounds_toArray,List.set_cons_succ,List.set_cons_zero]
           refine wpIn_cond_true (by kernel_rfl) ?_
           refine xZ ?_
           apply wpIn_region_lit
           refine Cx (by kernel_rfl) (λc hc=>by cases hc) (by kernel_rfl) (v:=jf.v) (w':=Wc) (by kernel_rfl) ?_
           refine dy (by kernel_rfl) rfl (by kernel_rfl) (by kernel_rfl) q4 ?_
           refine dy (by kernel_rfl) rfl (by kernel_rfl) (by kernel_rfl) q5 ?_
           try simp only[Act.put,List.setIfInBounds_toArray,List.set_cons_succ,List.set_cons_zero]
           refine xK ?_
           try simp only[Act.put,List.setIfInBounds_toArray,List.set_cons_succ,List.set_cons_zero]
           exact wpIn_ret (hl (by kernel_rfl) (by kernel_rfl))
         ·
           refine lF (by kernel_rfl) (λc hc=>by cases hc) (by kernel_rfl) (b':= !L.all bs) (b:=false) (by kernel_rfl) (by simp[hall]) ?_
           refine xK ?_
           try simp only[Act.put,List.setIfInBounds_toArray,List.set_cons_succ,List.set_cons_zero]
           refine wpIn_cond_false (by kernel_rfl) ?_
           refine wpIn_skip ?_
           exact⟨x31,x32,x33,x34,x35,x36,x37,x38,x39,.bool false,.bool true,.bool true,.slice a3 L.length c3,.bool (!L.all bs),.bool false,(by kernel_rfl),by first|exact .inr hall|simp[hall],BWc⟩
     · rintro a' W ⟨x31,x32,x33,x34,x35,x36,x37,x38,x39,x40,x41,x42,x43,x44,x45,rfl,hbl,BW⟩
       have B0W:bW w W:=ab BV BW BV.size
       have l6:(Instr.loadAt az (.pointer (some ⟨k6,0,none⟩))).run prog W=.ok (.slice a3 L.length c3) W:=(D1.below BW).load1 cb rfl rfl
       have hJ:(Lib.join L [46]).length <=1001000:=NR hLl hLx
       refine xZ ?_
       apply wpIn_region_lit
       refine dJ (by kernel_rfl) rfl (by kernel_rfl) l6 ?_
       refine js (by kernel_rfl) rfl (u:=.slice a3 L.length c3) (v:=vS [46]) (by kernel_rfl) (by kernel_rfl) (by decide) hF eJ ((callsIn_wide.2 (FG (D2.below BW).all [46] (by omega) (by omega))).mono ?_)
       rintro _ Wj ⟨_,rfl,rfl,hbj⟩
       refine⟨_,rfl,?_⟩
       try simp only[Act.put,List.setIfInBounds_toArray,List.set_cons_succ,List.set_cons_zero]
       have BWj:=ab BW hbj BW.size
       have B0j:=ab BV BWj BV.size
       refine Am (by kernel_rfl) rfl (u:=vS (Lib.join L [46])) (by kernel_rfl) (by decide) hF eP ((callsIn_wide.2 (nW (Lib.join L [46]) (by omega) Wj (he.step B0j))).mono ?_)
       rintro _ Wp ⟨_,rfl,rfl,hbp⟩
       have BWp:=ab BWj hbp BWj.size
       obtain⟨Wq,hWq⟩:∃Wq,Wq=Wp.alloc (.cells jf.cells.toArray ai):=⟨_,rfl⟩
       obtain⟨k10,hk10⟩:∃k,k=Wp.heap.size:=⟨_,rfl⟩
       have bq:bW Wp Wq:=hWq▸ah Wp _
       have A10:am Wq k10 ai jf.cells:=am.new hk10 hWq
       refine⟨_,rfl,?_⟩
       cases hv:cQ (Lib.join L [46])with
       | none=>
         obtain⟨Wr,q10,A10',g10⟩:=aJ.store0 (P:=prog) (cs:=jf.cells) rfl (Hst.one _) A10 rfl
         have BWr:bW V Wr:=ab BWp (Below.put bq g10 (by omega)) BWp.size
         obtain⟨w4,w5,q4,q5,hl⟩:=none_ BWr (Kk hL (b:=b) hb hbl hv)
         refine dX (by kernel_rfl) (.inl rfl) (u:=.tuple #[jf.v,vI 31]) (by kernel_rfl) ?_
         refine Cx (by kernel_rfl) (λc hc=>by cases hc) (by kernel_rfl) (v:=jf.v) (w':=Wp) (by kernel_rfl) ?_
         try simp only[Act.put,List.setIfInBounds_toArray,List.set_cons_succ,List.set_cons_zero]
         refine Cx (by kernel_rfl) (λc hc=>by cases hc) (by kernel_rfl) (v:=vI 31) (w':=Wp) (by kernel_rfl) ?_
         refine Es (by kernel_rfl) rfl (v:=.pointer (some ⟨k10,0,none⟩)) (w':=Wq) (by rw[hk10,hWq];kernel_rfl) ?_
         refine dy (by kernel_rfl) rfl (by kernel_rfl) (by kernel_rfl) q10 ?_
         try simp only[Act.put,List.setIfInBounds_toArray,List.set_cons_succ,List.set_cons_zero]
         refine dX (by kernel_rfl) (.inr rfl) (u:=vI 31) (by kernel_rfl) ?_
         refine xK ?_
         try simp only[Act.put,List.setIfInBounds_toArray,List.set_cons_succ,List.set_cons_zero]
         refine xZ ?_
         refine xZ ?_
         apply wpIn_region_lit
         refine dX (by kernel_rfl) (.inl rfl) (u:=vI 31) (by kernel_rfl) ?_
         refine lF (by kernel_rfl) (λc hc=>by cases hc) (by kernel_rfl) (b':=true) (by kernel_rfl) rfl ?_
         refine dX (by kernel_rfl) (.inl rfl) (u:=.bool true) (by kernel_rfl) ?_
         try simp only[Act.put,List.setIfInBounds_toArray,List.set_cons_succ,List.set_cons_zero]
         refine ks (by kernel_rfl) hF ?_
         refine ks (by kernel_rfl) hF ?_
         refine ks (by kernel_rfl) hF ?_
         try simp only[Act.put,List.setIfInBounds_toArray,List.set_cons_succ,List.set_cons_zero]
         refine ks (by kernel_rfl) hF ?_
         refine ks (by kernel_rfl) hF ?_
         refine ks (by kernel_rfl) hF ?_
         try simp only[Act.put,List.setIfInBounds_toArray,List.set_cons_succ,List.set_cons_zero]
         refine ks (by kernel_rfl) hF ?_
         refine lF (by kernel_rfl) (λc hc=>by cases hc) (by kernel_rfl) (b':=true) (by kernel_rfl) rfl ?_
         refine xK ?_
         try simp only[Act.put,List.setIfInBounds_toArray,List.set_cons_succ,List.set_cons_zero]
         refine wpIn_cond_true (by kernel_rfl) ?_
         refine xZ ?_
         apply wpIn_region_lit
         refine Cx (by kernel_rfl) (λc hc=>by cases hc) (by kernel_rfl) (v:=jf.v) (w':=Wr) (by kernel_rfl) ?_
         refine dy (by kernel_rfl) rfl (by kernel_rfl) (by kernel_rfl) q4 ?_
         refine dy (by kernel_rfl) rfl (by kernel_rfl) (by kernel_rfl) q5 ?_
         try simp only[Act.put,List.setIfInBounds_toArray,List.set_cons_succ,List.set_cons_zero]
         refine xK ?_
         try simp only[Act.put,List.setIfInBounds_toArray,List.set_cons_succ,List.set_cons_zero]
         exact wpIn_ret (hl (by kernel_rfl) (by kernel_rfl))
       | some h=>
         have og:=il hv
         obtain⟨Wr,q10,A10',g10⟩:=aJ.store0 (P:=prog) (cs:=h.cells) (Hst.len og) (Hst.one _) A10 rfl
         have BWr:bW V Wr:=ab BWp (Below.put bq g10 (by omega)) BWp.size
         have l10:(Instr.loadAt ai (.pointer (some ⟨k10,0,none⟩))).run prog Wr=.ok h.v Wr:=aJ.load0 A10' (Hst.len og)
         refine dX (by kernel_rfl) (.inl rfl) (u:=.tuple #[h.v,vI 0]) (by kernel_rfl) ?_
         refine Cx (by kernel_rfl) (λc hc=>by cases hc) (by kernel_rfl) (v:=h.v) (w':=Wp) (by kernel_rfl) ?_
         refine Cx (by kernel_rfl) (λc hc=>by cases hc) (by kernel_rfl) (v:=vI 0) (w':=Wp) (by kernel_rfl) ?_
         try simp only[Act.put,List.setIfInBounds_toArray,List.set_cons_succ,List.set_cons_zero]
         refine Es (by kernel_rfl) rfl (v:=.pointer (some ⟨k10,0,none⟩)) (w':=Wq) (by rw[hk10,hWq];kernel_rfl) ?_
         refine dy (by kernel_rfl) rfl (by kernel_rfl) (by kernel_rfl) q10 ?_
         refine dX (by kernel_rfl) (.inr rfl) (u:=vI 0) (by kernel_rfl) ?_
         try simp only[Act.put,List.setIfInBounds_toArray,List.set_cons_succ,List.set_cons_zero]
         refine xK ?_
         try simp only[Act.put,List.setIfInBounds_toArray,List.set_cons_succ,List.set_cons_zero]
         refine xZ ?_
         refine xZ ?_
         apply wpIn_region_lit
         refine dX (by kernel_rfl) (.inl rfl) (u:=vI 0) (by kernel_rfl) ?_
         refine lF (by kernel_rfl) (λc hc=>by cases hc) (by kernel_rfl) (b':=false) (by kernel_rfl) rfl ?_
         refine dX (by kernel_rfl) (.inl rfl) (u:=.bool false) (by kernel_rfl) ?_
         try simp only[Act.put,List.setIfInBounds_toArray,List.set_cons_succ,List.set_cons_zero]
         refine dX (by kernel_rfl) (.inl rfl) (u:=.bool b) (by kernel_rfl) ?_
         cases b with
         | true=>
           obtain⟨w4,w5,q4,q5,hl⟩:=some_ BWr og ((Ap hL hb.symm).trans hv)
           refine lF (by kernel_rfl) (λc hc=>by cases hc) (by kernel_rfl) (b':=false) (by kernel_rfl) rfl ?_
           refine dX (by kernel_rfl) (.inl rfl) (u:=.bool false) (by kernel_rfl) ?_
           try simp only[Act.put,List.setIfInBounds_toArray,List.set_cons_succ,List.set_cons_zero]
           refine ks (by kernel_rfl) hF ?_
           refine ks (by kernel_rfl) hF ?_
           refine ks (by kernel_rfl) hF ?_
           try simp only[Act.put,List.setIfInBounds_toArray,List.set_cons_succ,List.set_cons_zero]
           refine lF (by kernel_rfl) (λc hc=>by cases hc) (by kernel_rfl) (b':=false) (by kernel_rfl) rfl ?_
           refine lF (by kernel_rfl) (λc hc=>by cases hc) (by kernel_rfl) (b':=false) (by kernel_rfl) rfl ?_
           refine xK ?_
           try simp only[Act.put,List.setIfInBounds_toArray,List.set_cons_succ,List.set_cons_zero]
           refine wpIn_cond_false (by kernel_rfl) ?_
           refine wpIn_skip ?_
           refine xZ ?_
           apply wpIn_region_lit
           refine dJ (by kernel_rfl) rfl (by kernel_rfl) l10 ?_
           refine dy (by kernel_rfl) rfl (by kernel_rfl) (by kernel_rfl) q4 ?_
           refine dy (by kernel_rfl) rfl (by kernel_rfl) (by kernel_rfl) q5 ?_
           try simp only[Act.put,List.setIfInBounds_toArray,List.set_cons_succ,List.set_cons_zero]
           refine xK ?_
           try simp only[Act.put,List.setIfInBounds_toArray,List.set_cons_succ,List.set_cons_zero]
           exact wpIn_ret (hl (by kernel_rfl) (by kernel_rfl))
         | false=>
           have hall:L.all bs=true:=hbl.resolve_left (by simp)
           have eo:=GY hL hb.symm hall hv
           refine lF (by kernel_rfl) (λc hc=>by cases hc) (by kernel_rfl) (b':=true) (by kernel_rfl) rfl ?_
           refine dX (by kernel_rfl) (.inl rfl) (u:=.bool true) (by kernel_rfl) ?_
           refine Cx (by kernel_rfl) (λc hc=>by cases hc) (by kernel_rfl) (v:=.pointer (some ⟨k10,0,none⟩)) (w':=Wr) (by kernel_rfl) ?_
           try simp only[Act.put,List.setIfInBounds_toArray,List.set_cons_succ,List.set_cons_zero]
           refine dJ (by kernel_rfl) rfl (by kernel_rfl) (A10'.load1 (i:=0) aB rfl (v:=vI h.kind) rfl) ?_
           by_cases hk:h.kind=1
           · rw[if_pos hk]at eo
             obtain⟨w4,w5,q4,q5,hl⟩:=some_ BWr og eo
             refine lF (by kernel_rfl) (λc hc=>by cases hc) (by kernel_rfl) (b':=h.kind !=1) (b:=false) (by kernel_rfl) (by simp[hk]) ?_
             refine lF (by kernel_rfl) (λc hc=>by cases hc) (by kernel_rfl) (b':=false) (by kernel_rfl) rfl ?_
             try simp only[Act.put,List.setIfInBounds_toArray,List.set_cons_succ,List.set_cons_zero]
             refine lF (by kernel_rfl) (λc hc=>by cases hc) (by kernel_rfl) (b':=false) (by kernel_rfl) rfl ?_
             refine xK ?_
             try simp only[Act.put,List.setIfInBounds_toArray,List.set_cons_succ,List.set_cons_zero]
             refine wpIn_cond_false (by kernel_rfl) ?_
             refine wpIn_skip ?_
             refine xZ ?_
             apply wpIn_region_lit
             refine dJ (by kernel_rfl) rfl (by kernel_rfl) l10 ?_
             refine dy (by kernel_rfl) rfl (by kernel_rfl) (by kernel_rfl) q4 ?_
             refine dy (by kernel_rfl) rfl (by kernel_rfl) (by kernel_rfl) q5 ?_
             try simp only[Act.put,List.setIfInBounds_toArray,List.set_cons_succ,List.set_cons_zero]
             refine xK ?_
             try simp only[Act.put,List.setIfInBounds_toArray,List.set_cons_succ,List.set_cons_zero]
             exact wpIn_ret (hl (by kernel_rfl) (by kernel_rfl))
           · rw[if_neg hk]at eo
             obtain⟨w4,w5,q4,q5,hl⟩:=none_ BWr eo
             refine lF (by kernel_rfl) (λc hc=>by cases hc) (by kernel_rfl) (b':=h.kind !=1) (by kernel_rfl) (bne_iff_ne.2 hk) ?_
             refine lF (by kernel_rfl) (λc hc=>by cases hc) (by kernel_rfl) (b':=true) (by kernel_rfl) rfl ?_
             refine lF (by kernel_rfl) (λc hc=>by cases hc) (by kernel_rfl) (b':=true) (by kernel_rfl) rfl ?_
             try simp only[Act.put,List.setIfInBounds_toArray,List.set_cons_succ,List.set_cons_zero]
             refine xK ?_
             try simp only[Act.put,List.setIfInBounds_toArray,List.set_cons_succ,List.set_cons_zero]
             refine wpIn_cond_true (by kernel_rfl) ?_
             refine xZ ?_
             apply wpIn_region_lit
             refine Cx (by kernel_rfl) (λc hc=>by cases hc) (by kernel_rfl) (v:=jf.v) (w':=Wr) (by kernel_rfl) ?_
             refine dy (by kernel_rfl) rfl (by kernel_rfl) (by kernel_rfl) q4 ?_
             refine dy (by kernel_rfl) rfl (by kernel_rfl) (by kernel_rfl) q5 ?_
             try simp only[Act.put,List.setIfInBounds_toArray,List.set_cons_succ,List.set_cons_zero]
             refine xK ?_
             try simp only[Act.put,List.setIfInBounds_toArray,List.set_cons_succ,List.set_cons_zero]
             exact wpIn_ret (hl (by kernel_rfl) (by kernel_rfl))
 case stop=>
   rintro D c pre W _ hp ⟨x,hx,hno⟩ _
   exact absurd (hw0 _ (hp x hx)) hno
theorem CB {ws:List Int}{w:World}(he:Env w){p:Option Addr}{ts:List Txt}(hA:gB w p ts)(htl:ts.length <=100000){a:Option Addr}{n c:Nat}(hs:Sl cI w kj a n c ws)(hin:∀b o,a=some ⟨b,o,none⟩->b<w.heap.size)
   (hw0:∀x∈ws,0 <=x/\x <=(ts.length:Int)) (hwl:ws.length <=1000) (hxl:∀x∈txs ts ws,x.length <=1000):
   Cf vM #[.pointer p,.slice a n c] w (Ret λv w'=>v=.tuple #[((eM (txs ts ws)).getD jf).v,.bool (eM (txs ts ws)).isSome]/\bW w w'):=
 (callsIn_wide.1 (CA he hA htl hs hin hw0 hwl hxl)).mono λe w' ⟨he,hb⟩=>⟨_,he,rfl,hb⟩
end
noncomputable def Bi (ts:List Txt):DA:=hD (hAd ts) (hLb ts) (hDg ts) (ts.length+1)
theorem MN {ts:List Txt}(hl:ts.length <=60)(hx:∀t∈ts,t.length <=1000){x:Nat}(h:x <=ts.length):(tx ts x).length <=1000:=by
 rcases Nat.lt_or_ge x ts.length with h1|h1
 · rw[MO h1];exact hx _ (List.getElem_mem h1)
 · have:x=ts.length:=by omega
   subst this
   rw[Do]
   have:=(iT (rY hl)).2.1
   omega
set_option maxHeartbeats 1000000 in
theorem AK {w:World}(he:Env w){p:Option Addr}{ts:List Txt}(hA:gB w p ts)(htl:ts.length <=60)(hx:∀t∈ts,t.length <=1000):Cf oH #[.pointer p] w (Ret (vo w (Bi ts))):=by
 apply zM
 intro k2 w2 hk2 hw2
 have hb2:=(hw2▸ah w _:bW w w2)
 have A2:am w2 k2 af [vI 0,vI 0,.slice none 0 0,.slice none 0 0]:=am.new hk2 hw2
 refine ax (cY p ts (by omega) w2 (hA.below hb2)) ?_
 rintro _ w9 ⟨rfl,hw9⟩
 rw[hw9];clear hw9 w9
 have hlen:((ts.length:Int)+1)=((ts.length+1:Nat):Int):=by omega
 obtain⟨k,hkk⟩:∃k,k=ts.length+1:=⟨_,rfl⟩
 refine⟨_,rfl,ae.no (decide_eq_false (by omega)) ?_⟩
 rw[hlen,<- hkk]
 have e4:i64.wrap ((4:Int)*((k:Nat):Int))=((4*k:Nat):Int):=by rw[wrap_i64 (by omega) (by omega)];omega
 try dsimp only
 rw[e4]
 obtain⟨w16,a16,s16,o16,b16,f16⟩:=yk (P:=prog) (s:=ar) (t:=aw) (e:=λn=>vI n) (h1:=λ_=>rfl) (p:=λ_=>True) aI ff (x0:=(0:Int)) rfl rfl trivial .i64 .i64 (4*k) (by omega) (by omega) w2 NoB
 refine⟨w16,a16,_,_,s16,?_⟩
 intro k17 w17 hk17 hw17 k5 w5 hk5 hw5
 have hb17:=(hw17▸ah w16 _:bW w16 w17)
 have hb5:=(hw5▸ah w17 _:bW w17 w5)
 have O17:Ow lH aX w17 NoB (some ⟨k17,0,none⟩) 4 4 [false,false,true,true]:=
   Ow.newF (l:=[Value.bool false,.bool false,.bool true,.bool true]) (T:=lH) xW hk17 hw17 (j1 (e:=λb=>Value.bool b) (h1:=λ_=>rfl) (p:=λ_=>True) (xs:=[false,false,true,true]) (λ_ _=>trivial)) (by decide)
 have A5:am w5 k5 af [vI 0,vI 0,.slice none 0 0,.slice none 0 0]:=am.new hk5 hw5
 obtain⟨d0',hd0⟩:∃d:DA,d=⟨(k:Int),1,List.replicate (4*k) 0,[false,false,true,true]⟩:=⟨_,rfl⟩
 obtain⟨wx,s3,v3,g3⟩:=bG.store0 (P:=prog) (cs:=daL a16 (4*k) (4*k) (some ⟨k17,0,none⟩) 4 4 d0') rfl (fM _ _ _ _ _ _ _) A5 rfl
 have s2:=hb2.size
 have s16':=b16.size
 have s17:=hb17.size
 have s5:=hb5.size
 have l2:=A2.lt
 have l17:k17<w17.heap.size:=O17.lt k17 (by simp[bK])
 have ob17:∀g,bK (some (⟨k17,0,none⟩:Addr))=some g->g=k17:=λg hg=>by simp[bK]at hg;exact hg.symm
 have hB5:bW w w5:=ab (ab (ab hb2 b16 hb2.size) hb17 (by omega)) hb5 (by omega)
 have hBx:bW w wx:=Below.put hB5 g3 (by omega)
 have bx5:bW w5 w5:=Below.refl _ _
 have n5:∀g,bK a16=some g->g≠k5:=λg hg e=>by have:=o16.lt g hg;omega
 have U0:UpS w k5 0 ⟨(k:Int),1,hNx (hAd ts) (hLb ts) (hDg ts) k 0,[false,false,true,true]⟩ a16 (4*k) (4*k) (some ⟨k17,0,none⟩) 4 4 wx:=by
   rw[NO]
   rw[hd0]at v3
   refine⟨⟨v3,((o16.below hb17).below hb5).put (λg hg e=>n5 g hg e) g3,(O17.below hb5).put (λg hg e=>by have:=ob17 g hg;omega) g3,n5,λg hg e=>by have:=ob17 g hg;omega,λg hg e=>?_⟩,hBx,λg hg=>by have:=f16 g hg;omega,λg hg=>by have:=ob17 g hg;omega,Nat.zero_le _⟩
   have:=ob17 g e
   have:=o16.lt g hg
   omega
 have A2x:∀{W:World},bW w2 W->am W k2 af [vI 0,vI 0,.slice none 0 0,.slice none 0 0]:=λh=>A2.below h
 have hB2x:bW w2 wx:=Below.put (ab (ab b16 hb17 (by omega)) hb5 (by omega)) g3 (by omega)
 rw[hd0]at s3
 refine⟨wx,s3,λm i W=>∃j:Nat,j <=k/\i=(j:Int)/\m=k-j/\UpS w k5 0 ⟨(k:Int),1,hNx (hAd ts) (hLb ts) (hDg ts) k j,[false,false,true,true]⟩ a16 (4*k) (4*k) (some ⟨k17,0,none⟩) 4 4 W/\bW w2 W,⟨_,0,by omega,rfl,rfl,U0,hB2x⟩,?_⟩
 intro m i
 refine aC.of ?_ _
 rintro wl ⟨j,hj,rfl,rfl,U,hW2⟩
 have hnl:∀j,(hNx (hAd ts) (hLb ts) (hDg ts) k j).length=4*k:=λj=>zt _ _ _ _ _
 refine ae.of (λh3=>?_) (λh3=>?_) <;> simp only[dTx,dFx]at h3
 · have hjk:j<k:=by omega
   refine ax (qM p ts (by omega) (j:Int) wl (hA.below U.bel)) ?_
   rintro _ w25 ⟨rfl,hb25⟩
   have hst:tr ts (j:Int)=tx ts j:=rfl
   have hl1:(tx ts j).length <=1000:=MN htl hx (by omega)
   refine⟨_,rfl,?_⟩
   rw[hst]
   have B25:=ab U.bel hb25 U.bel.size
   refine ax (pW (tx ts j) (by omega) w25 (he.step B25)) ?_
   rintro _ w28 ⟨rfl,hb28⟩
   have hb28':=ab hb25 hb28 hb25.size
   have put:∀{W:World} {nx:List Int} (c:Nat) (v:Int),c<4->nx.length=4*k->UpS w k5 0 ⟨(k:Int),1,nx,[false,false,true,true]⟩ a16 (4*k) (4*k) (some ⟨k17,0,none⟩) 4 4 W->bW w2 W->
       (Instr.loadAt ar (.pointer (some ⟨k5,2,none⟩))).run prog W=.ok (.slice a16 (4*k) (4*k)) W/\((0 <=i64.wrap (i64.wrap ((c:Int)*((k:Nat):Int))+(j:Int))/\i64.wrap (i64.wrap ((c:Int)*((k:Nat):Int))+(j:Int))<((4*k:Nat):Int))/\Option.isSome a16=true)/\
       ∃wy,(Instr.storeAt aw (.pointer (ao a16 (i64.wrap (i64.wrap ((c:Int)*((k:Nat):Int))+(j:Int))) 1)) (vI v)).run prog W=.ok () wy/\UpS w k5 0 ⟨(k:Int),1,nx.set (c*k+j) v,[false,false,true,true]⟩ a16 (4*k) (4*k) (some ⟨k17,0,none⟩) 4 4 wy/\bW w2 wy:=by
     intro W nx c v hc hn U hW
     have hck:c*k <=3*k:=Nat.mul_le_mul_right k (by omega)
     have e1:i64.wrap (i64.wrap ((c:Int)*((k:Nat):Int))+(j:Int))=((c*k+j:Nat):Int):=by
       rw[<- Int.natCast_mul,wrap_i64 (n:=((c*k:Nat):Int)) (by omega) (by omega),wrap_i64 (by omega) (by omega)];omega
     rw[e1]
     have hidx:c*k+j<nx.length:=by omega
     obtain⟨wy,s6,o6,g6⟩:=U.mb.nx.store (P:=prog) ff (i:=((c*k+j:Nat):Int)) (k:=1) (λ_ _ h=>h) (by rw[Int.toNat_natCast];exact hidx) rfl (v:=vI v) (x:=v) eE
     rw[Int.toNat_natCast]at o6
     refine⟨U.mb.var.load1 aI rfl rfl,⟨⟨by omega,by omega⟩,U.mb.nx.all.isSome hidx⟩,wy,s6,⟨⟨U.mb.var.grown g6 (λex=>U.mb.na k5 ex.symm rfl),o6,U.mb.ac.other g6 (λg hg ex=>U.mb.ne g ex hg),U.mb.na,U.mb.nb,U.mb.ne⟩,U.bel.grown g6 U.bel.size λg hg=>U.fa g hg,U.fa,U.fb,Nat.zero_le _⟩,hW.grown g6 hW.size λg hg=>?_⟩
     exact f16 g hg
   have up:∀{W:World} {nx:List Int} {W':World},UpS w k5 0 ⟨(k:Int),1,nx,[false,false,true,true]⟩ a16 (4*k) (4*k) (some ⟨k17,0,none⟩) 4 4 W->bW W W'->UpS w k5 0 ⟨(k:Int),1,nx,[false,false,true,true]⟩ a16 (4*k) (4*k) (some ⟨k17,0,none⟩) 4 4 W':=λU hb=>⟨U.mb.below hb,ab U.bel hb U.bel.size,U.fa,U.fb,Nat.zero_le _⟩
   have again:∀{W:World} {nx:List Int},nx=hNx (hAd ts) (hLb ts) (hDg ts) k (j+1)->UpS w k5 0 ⟨(k:Int),1,nx,[false,false,true,true]⟩ a16 (4*k) (4*k) (some ⟨k17,0,none⟩) 4 4 W->bW w2 W->
       ∃m':Nat,m'<k-j/\∃j':Nat,j' <=k/\i64.wrap ((j:Int)+1)=(j':Int)/\m'=k-j'/\UpS w k5 0 ⟨(k:Int),1,hNx (hAd ts) (hLb ts) (hDg ts) k j',[false,false,true,true]⟩ a16 (4*k) (4*k) (some ⟨k17,0,none⟩) 4 4 W/\bW w2 W:=by
     rintro W nx rfl U hW
     exact⟨k-(j+1),by omega,j+1,by omega,by rw[wrap_i64 (by omega) (by omega)];omega,rfl,U,hW⟩
   have U28:=up U hb28'
   have W28:bW w2 w28:=ab hW2 hb28' hW2.size
   refine⟨_,rfl,ae.of (λc1=>?_) (λc1=>?_)⟩
   · obtain⟨q1,q2,wy,q3,U',W'⟩:=put 1 3 (by omega) (hnl j) U28 W28
     exact⟨rfl,a16,_,_,q1,q2,wy,q3,again (Fz (by omega) (by rw[show hAd ts j=true from c1];simp)) U' W'⟩
   · refine ax (sH (tx ts j) (by omega) w28 (he.step U28.bel)) ?_
     rintro _ w38 ⟨rfl,hb38⟩
     have U38:=up U28 hb38
     have W38:bW w2 w38:=ab W28 hb38 W28.size
     have c1':hAd ts j=false:=c1
     refine⟨_,rfl,ae.of (λc2=>?_) (λc2=>?_)⟩
     · have c2':hLb ts j=true:=c2
       obtain⟨q1,q2,wy,q3,U',W'⟩:=put 2 2 (by omega) (hnl j) U38 W38
       refine⟨rfl,a16,_,_,q1,q2,wy,q3,?_⟩
       refine ax (oZ (tx ts j) (by omega) wy) ?_
       rintro _ w47 ⟨rfl,hb47⟩
       have U47:=up U' hb47
       have W47:bW w2 w47:=ab W' hb47 W'.size
       refine⟨_,rfl,ae.of (λc3=>?_) (λc3=>?_)⟩
       · have c3':hDg ts j=false:=by
           have:(!cC (tx ts j))=true:=c3
           show cC (tx ts j)=false
           simpa using this
         obtain⟨r1,r2,wz,r3,U'',W''⟩:=put 1 2 (by omega) (by rw[List.length_set];exact hnl j) U47 W47
         exact⟨rfl,a16,_,_,r1,r2,wz,r3,again (Fz (by omega) (by rw[c1',c2',c3'];simp)) U'' W''⟩
       · have c3':hDg ts j=true:=by
           have:(!cC (tx ts j))=false:=c3
           show cC (tx ts j)=true
           simpa using this
         exact again (Fz (by omega) (by rw[c1',c2',c3'];simp)) U47 W47
     · have c2':hLb ts j=false:=c2
       exact again (Fz (by omega) (by rw[c1',c2'];simp)) U38 W38
 · have hjk:j=k:=by omega
   subst hjk
   have eD:(⟨(j:Int),1,hNx (hAd ts) (hLb ts) (hDg ts) j j,[false,false,true,true]⟩:DA)=Bi ts:=by unfold Bi hD;rw[hkk]
   rw[eD]at U
   obtain⟨w9,s9,s9',g9⟩:=cX (A2x hW2) rfl a16 (4*j) (4*j) (some ⟨k17,0,none⟩) 4 4 (Bi ts)
   have OO:zb w.heap.size wl a16 (4*j) (4*j) (some ⟨k17,0,none⟩) 4 4 (Bi ts):=⟨U.mb.nx,U.mb.ac,U.mb.ne,U.fa,U.fb⟩
   have f2:∀g,bK a16=some g->g≠k2:=λg hg e=>by have:=f16 g hg;omega
   have O9:zb w.heap.size w9 a16 (4*j) (4*j) (some ⟨k17,0,none⟩) 4 4 (Bi ts):=⟨U.mb.nx.put (λg hg e=>f2 g hg e) g9,U.mb.ac.put (λg hg e=>by have:=ob17 g hg;omega) g9,U.mb.ne,U.fa,U.fb⟩
   exact⟨_,_,a16,_,_,some ⟨k17,0,none⟩,4,4,bG.load0 (cs:=daL a16 (4*j) (4*j) (some ⟨k17,0,none⟩) 4 4 (Bi ts)) U.mb.var rfl,w9,s9,_,_,a16,_,_,some ⟨k17,0,none⟩,4,4,s9',a16,_,_,some ⟨k17,0,none⟩,4,4,rfl,O9,Below.put U.bel g9 (by omega)⟩
def iA (d:DA)(j t:Nat):List (Int×Int):=((List.range j).filter λi=>decide ((d.nx.getD i 0).toNat=t)).map λi=>(((i/d.K:Nat):Int),((i%d.K:Nat):Int))
theorem Dz (d:DA)(j t:Nat):iA d (j+1) t=iA d j t++(if(d.nx.getD j 0).toNat=t then[(((j/d.K:Nat):Int),((j%d.K:Nat):Int))]else[]):=by
 unfold iA
 rw[List.range_succ,List.filter_append,List.map_append]
 congr 1
 by_cases h:(d.nx.getD j 0).toNat=t
 · rw[if_pos h,List.filter_cons,if_pos (decide_eq_true h)];rfl
 · rw[if_neg h,List.filter_cons,if_neg (by simpa only[dTx]using h)];rfl
theorem EE {d:DA}(hd:d.Ok){t:Nat}{p:Int×Int} :p∈iA d d.nx.length t ↔ ∃f x:Nat,p=((f:Int),(x:Int))/\f<d.n/\x<d.K/\d.to f x=t:=by
 have hK:0<d.K:=by have:=hd.k1;show 0<d.k.toNat;omega
 unfold iA
 rw[List.mem_map]
 constructor
 · rintro⟨i,hi,rfl⟩
   rw[List.mem_filter,List.mem_range,dTx]at hi
   obtain⟨h1,h2⟩:=hi
   rw[hd.lenN]at h1
   refine⟨i/d.K,i%d.K,rfl,Nat.div_lt_of_lt_mul (by rw[Nat.mul_comm];exact h1),Nat.mod_lt _ hK,?_⟩
   unfold DA.to
   rw[show i/d.K*d.K+i%d.K=i from by rw[Nat.mul_comm];exact Nat.div_add_mod i d.K]
   exact h2
 · rintro⟨f,x,rfl,hf,hx,e⟩
   have hi:f*d.K+x<d.n*d.K:=ud hf hx
   refine⟨f*d.K+x,?_,?_⟩
   · rw[List.mem_filter,List.mem_range,dTx,hd.lenN]
     exact⟨hi,e⟩
   · have e1:(f*d.K+x)/d.K=f:=by rw[Nat.mul_comm,Nat.mul_add_div hK,Nat.div_eq_of_lt hx,Nat.add_zero]
     have e2:(f*d.K+x)%d.K=x:=by rw[Nat.mul_comm,Nat.mul_add_mod];exact Nat.mod_eq_of_lt hx
     rw[e1,e2]
structure Rnd (d:DA)(cs:List Int)(C:Int)(out:List Int)(H:Hp):Prop where
 inv:M9 d cs C out
 hin:HIn d out H
 pend:∀s,s<d.n->Nb d cs out H s
structure Mid (d:DA)(cs:List Int)(C:Int)(out:List Int)(H:Hp)(st:Nat)(c:Int)(j:Nat):Prop where
 inv:M9 d cs C out
 hin:HIn d out H
 lt:st<d.n
 cost:oAt out st=c
 fin:c <=68719476736-1048576
 pend:∀s,s<d.n->s≠st->Nb d cs out H s
 done:∀f x:Nat,((f:Int),(x:Int))∈(iA d d.nx.length st).take j->oAt out f <=c+cAt cs x
theorem Rnd.first {d:DA}{cs:List Int}{C:Int}{out:List Int}{H:Hp}(hl:out.length=d.n)(h:∀s,s<d.n->oAt out s=if d.acc s=true then 0 else INF)(hH:∀c s,(c,s)∈H ↔ c=0/\s<d.n/\d.acc s=true):Rnd d cs C out H:=by
 refine⟨M9.first hl h,λp hp=>?_,λs hs hi=>?_⟩
 · obtain⟨c,s⟩:=p
   obtain⟨h1,h2,h3⟩:=(hH c s).1 hp
   refine⟨h2,?_,?_⟩
   · show oAt out s <=c
     rw[h s h2,if_pos h3,h1];exact Int.le_refl _
   · show c <=_
     rw[h1];decide
 · left
   rw[h s hs]at hi ⊢
   by_cases ha:d.acc s=true
   · rw[if_pos ha];exact(hH 0 s).2 ⟨rfl,hs,ha⟩
   · rw[if_neg ha]at hi;exact absurd rfl hi
theorem HIn.perm {d:DA}{out:List Int}{H H':Hp}(h:HIn d out H)(hs:∀p∈H',p∈H):HIn d out H':=λp hp=>h p (hs p hp)
theorem Rnd.skip {d:DA}{cs:List Int}{C:Int}{out:List Int}{H H':Hp}{c:Int}{st:Nat}(h:Rnd d cs C out H)(hp:H.Perm ((c,st)::H'))(hc:oAt out st<c):Rnd d cs C out H':=by
 refine⟨h.inv,h.hin.perm λp hm=>hp.mem_iff.2 (List.mem_cons_of_mem _ hm),λs hs hi=>?_⟩
 rcases h.pend s hs hi with h1|h1
 · rcases List.mem_cons.1 (hp.mem_iff.1 h1)with h2|h2
   · obtain⟨e1,e2⟩:=Prod.mk.inj h2
     subst e2;omega
   · exact .inl h2
 · exact .inr h1
theorem Rnd.take {d:DA}(hd:d.Ok){cs:List Int}{C:Int}(hC:Nk cs C){out:List Int}{H H':Hp}{c:Int}{st:Nat}(h:Rnd d cs C out H)(hp:H.Perm ((c,st)::H'))(hc: ¬ oAt out st<c):Mid d cs C out H' st c 0:=by
 have hm:(c,st)∈H:=hp.mem_iff.2 List.mem_cons_self
 obtain⟨h1,h2,h3⟩:=h.hin _ hm
 have e:oAt out st=c:=by
   have h2:oAt out st <=c:=h2
   omega
 have hI:=Aq
 have hne:oAt out st≠INF:=by
   have h3:c <=68719476736:=h3
   omega
 refine⟨h.inv,h.hin.perm λp hm=>hp.mem_iff.2 (List.mem_cons_of_mem _ hm),h1,e,?_,λs hs hst hi=>?_,λf x hx=>by simp at hx⟩
 · rw[<- e];exact(h.inv.bnd st h1 hne).le hd (by have:=hC.lo;omega) hC.hi h1
 · rcases h.pend s hs hi with h4|h4
   · rcases List.mem_cons.1 (hp.mem_iff.1 h4)with h5|h5
     · exact absurd (Prod.mk.inj h5).2 hst
     · exact .inl h5
   · exact .inr h4
theorem ES {α:Type}{l:List α}{j:Nat}{x:α}(h:l[j]? =some x):l.take (j+1)=l.take j++[x]:=by
 obtain⟨h1,h2⟩:=List.getElem?_eq_some_iff.1 h
 rw[List.take_succ_eq_append_getElem h1,h2]
theorem Mid.no {d:DA}{cs:List Int}{C:Int}{out:List Int}{H:Hp}{st:Nat}{c:Int}{j f x:Nat}(h:Mid d cs C out H st c j)(hj:(iA d d.nx.length st)[j]? =some ((f:Int),(x:Int)))(hn: ¬ c+cAt cs x<oAt out f):Mid d cs C out H st c (j+1):=
 ⟨h.inv,h.hin,h.lt,h.cost,h.fin,h.pend,λg y hg=>by
   rw[ES hj]at hg
   rcases List.mem_append.1 hg with hg|hg
   · exact h.done g y hg
   · rw[List.mem_singleton]at hg
     obtain⟨e1,e2⟩:=Prod.mk.inj hg
     have e1:g=f:=by omega
     have e2:y=x:=by omega
     subst e1 e2;omega⟩
theorem Mid.yes {d:DA}(hd:d.Ok){cs:List Int}{C:Int}{out:List Int}(hc:wM cs)(hC:Nk cs C)(hk:cs.length=d.K){H H':Hp}{st:Nat}{c:Int}{j f x:Nat}(h:Mid d cs C out H st c j)(hj:(iA d d.nx.length st)[j]? =some ((f:Int),(x:Int)))
   (hf:f<d.n) (hx:x<d.K) (ht:d.to f x=st) (hy:c+cAt cs x<oAt out f) (hH:∀p,p∈H' ↔ p=(c+cAt cs x,f)\/p∈H):Mid d cs C (out.set f (c+cAt cs x)) H' st c (j+1):=by
 have hcx:=hc.at (x:=x) (by omega)
 have hI:=Aq
 have hfin:=h.fin
 have hst:=h.cost
 have hne:f≠st:=λe=>by subst e;omega
 have hfl:f<out.length:=by rw[h.inv.len];exact hf
 have hi:oAt out st≠INF:=by omega
 have hinv:=h.inv.down hd hc hC hk hf hx ht hi (v:=c+cAt cs x) (by omega) hy
 refine⟨hinv,(HIn.down hfl hf hy (by omega) h.hin).perm λp hp=>?_,h.lt,by rw[dw hne];exact hst,hfin,λs hs hss hsi=>?_,λg y hg=>?_⟩
 · rcases(hH p).1 hp with rfl|hp
   · exact List.mem_cons_self
   · exact List.mem_cons_of_mem _ hp
 · by_cases e:f=s
   · subst e
     left
     rw[eU hfl]
     exact(hH _).2 (.inl rfl)
   · exact(Nb.down hfl hy e ((h.pend s hs hss).sub λp hp=>(hH p).2 (.inr hp))) hsi
 · have hle:oAt (out.set f (c+cAt cs x)) g <=oAt out g:=by
     by_cases e:f=g
     · subst e;rw[eU hfl];omega
     · rw[dw e];exact Int.le_refl _
   rw[ES hj]at hg
   rcases List.mem_append.1 hg with hg|hg
   · have:=h.done g y hg;omega
   · rw[List.mem_singleton]at hg
     obtain⟨e1,e2⟩:=Prod.mk.inj hg
     have e1:g=f:=by omega
     have e2:y=x:=by omega
     subst e1 e2
     rw[eU hfl]
     exact Int.le_refl _
theorem Mid.over {d:DA}(hd:d.Ok){cs:List Int}{C:Int}{out:List Int}{H:Hp}{st:Nat}{c:Int}{j:Nat}(h:Mid d cs C out H st c j)(hj:(iA d d.nx.length st).length <=j):Rnd d cs C out H:=by
 refine⟨h.inv,h.hin,λs hs=>?_⟩
 by_cases e:s=st
 · subst e
   intro _
   right
   intro f x hf hx ht
   have:=h.done f x (by rw[List.take_of_length_le hj];exact(EE hd).2 ⟨f,x,rfl,hf,hx,ht⟩)
   rw[h.cost];exact this
 · exact h.pend s hs e
theorem Rnd.left {d:DA}(hd:d.Ok){cs:List Int}{C:Int}{out:List Int}(hc:wM cs)(hC:Nk cs C)(hk:cs.length=d.K)(h:Rnd d cs C out []):vH d cs out:=h.inv.done hd hc hC hk h.pend
def R4:Ty (List Pi) where
 k:=1
 pos:=by decide
 rep:=λw A vs xs=>∃a n c,vs=[.slice a n c]/\Sl tP w A a n c xs
 len:=λh=>by obtain⟨a,n,c,e,_⟩:=h;rw[e];rfl
 one:=fun{_ _ _ x} h v hv=>by obtain⟨a,n,c,e,_⟩:=h;rw[e]at hv;simp at hv;subst hv;rfl
 keep:=λh hk=>by obtain⟨a,n,c,e,hs⟩:=h;exact⟨a,n,c,e,hs.keep hk⟩
 mono:=λh hA=>by obtain⟨a,n,c,e,hs⟩:=h;exact⟨a,n,c,e,hs.mono hA⟩
structure Hd where
 a:Option Addr
 n:Nat
 c:Nat
 xs:List Pi
def Hd.v (h:Hd):Value:=.slice h.a h.n h.c
theorem Q9 {α:Type}{l:List α}{t:Nat}(x v:α)(ht:t<l.length):l.take t++[v]++l.drop (t+1)=l.set t v:=by
 rw[List.set_eq_take_append_cons_drop,if_pos ht,List.append_assoc];rfl
theorem nv {α:Type}{l:List α}{t i:Nat}{v y:α}(h:(l.set t v)[i]? =some y):i=t/\y=v\/i≠t/\l[i]? =some y:=by
 by_cases e:i=t
 · subst e
   left
   have hl:i<l.length:=by have:=(List.getElem?_eq_some_iff.1 h).1;simpa using this
   rw[List.getElem?_set_self hl]at h
   exact⟨rfl,(Option.some.inj h).symm⟩
 · rw[List.getElem?_set_ne (λe2=>e e2.symm)]at h
   exact .inr ⟨e,h⟩
structure KW (to_ ti:TypeId)(B:Nat)(w:World)(g:Nat)(hs:List Hd):Prop where
 row:am w g to_ (hs.map Hd.v)
 own:∀h∈hs,Ow tP ti w NoB h.a h.n h.c h.xs
 new:∀h∈hs,bI B h.a
 low:B <=g
 out:∀h∈hs,bK h.a≠some g
 apart:∀(i j:Nat) (x y:Hd),hs[i]? =some x->hs[j]? =some y->i≠j->∀b,bK x.a=some b->bK y.a≠some b
theorem KW.below {to_ ti:TypeId}{B:Nat}{w w':World}{g:Nat}{hs:List Hd}(h:KW to_ ti B w g hs)(hb:bW w w'):KW to_ ti B w' g hs:=
 ⟨h.row.below hb,λx hx=>(h.own x hx).below hb,h.new,h.low,h.out,h.apart⟩
theorem OH:Whl prog fK 2:=⟨⟨_,_,Au⟩,by kernel_rfl⟩
def Og (d:DA)(j:Nat)(hs:List Hd):Prop:=hs.length=d.n/\∀t x,hs[t]? =some x->x.xs=iA d j t
theorem Gb {w:World}{a b:Option Addr}{n c m e:Nat}{d:DA}(h:DaS w a n c b m e d)(hd:d.Ok):
   Cf tK #[daV a n c b m e d] w (Ret λv w'=>∃(a':Option Addr) (n' c':Nat),v=.slice a' n' c'/\Sl R4 w' (λg=>w.heap.size <=g) a' n' c' ((List.range d.n).map (iA d d.nx.length))/\bW w w'):=by
 apply D9
 intro k1 w1 hk1 hw1
 have b1:=(hw1▸ah w _:bW w w1)
 have A1:am w1 k1 af ([vI d.k,vI d.st,.slice a n c,.slice b m e]):=am.new hk1 hw1
 have hm:=h.ac.len
 have hn:=h.nx.len
 have hN:=hd.n2
 have hN1:=hd.n1
 have hlen:=hd.lenN
 have hKK:=hd.kk
 have hK2:=hd.k2
 have hK1:=hd.k1
 have hmul:d.n*d.K <=65536*512:=Nat.mul_le_mul hN (by show d.k.toNat <=512;omega)
 refine⟨rfl,b,m,e,A1.load1 bf rfl rfl,?_⟩
 obtain⟨ti,hti,hsz,hbt,hzz⟩:=uz.info
 have hr:=run_make_row (P:=prog) lP bY ti (.slice none 0 0) yG hti hzz hsz rfl .i64 .i64 m (by rw[hbt];omega) (by omega) w1
 rw[FK]at hr
 obtain⟨w9,hw9⟩:∃w9,w9=w1.alloc (.cells (List.replicate m (Value.slice none 0 0)).toArray bY):=⟨_,rfl⟩
 obtain⟨g,hg⟩:∃g,g=w1.heap.size:=⟨_,rfl⟩
 rw[<- hw9,<- hg]at hr
 have b9:bW w1 w9:=hw9▸ah w1 _
 have kg:k1<g:=by have:=A1.lt;omega
 have R0:KW bY fK w.heap.size w9 g (List.replicate m ⟨none,0,0,[]⟩):=by
   refine⟨?_,λx hx=>?_,λx hx=>?_,by omega,λx hx=>?_,λi j x y hx hy hij bb hb=>?_⟩
   · rw[List.map_replicate];exact am.new hg hw9
   · rw[(List.mem_replicate.1 hx).2];exact Ow.nil _ _ _ _
   · rw[(List.mem_replicate.1 hx).2];exact bI.none _
   · rw[(List.mem_replicate.1 hx).2];intro h;cases h
   · have:=List.mem_of_getElem? hx
     rw[(List.mem_replicate.1 this).2]at hb;cases hb
 have W0:Og d 0 (List.replicate m ⟨none,0,0,[]⟩):=⟨by rw[List.length_replicate];exact hm,λt x hx=>by
   have:=List.mem_of_getElem? hx
   rw[(List.mem_replicate.1 this).2];rfl⟩
 refine⟨w9,some ⟨g,0,none⟩,m,m,hr,rfl,a,n,c,(A1.below b9).load1 aI rfl rfl,?_⟩
 have B9:=ab b1 b9 b1.size
 refine⟨λmm i wl=>∃(j:Nat) (hs:List Hd),i=(j:Int)/\j <=d.nx.length/\mm=d.nx.length-j/\KW bY fK w.heap.size wl g hs/\Og d j hs/\am wl k1 af ([vI d.k,vI d.st,.slice a n c,.slice b m e])/\(∀x∈hs,bK x.a≠some k1)/\bW w wl,
   ⟨_,0,_,rfl,Nat.zero_le _,rfl,R0,W0,A1.below b9,λx hx=>(by rw[(List.mem_replicate.1 hx).2];intro h;cases h),B9⟩,?_⟩
 intro mm i
 refine aC.of ?_ _
 rintro wl ⟨j,hs,rfl,hj,rfl,R,W,A,hk1,Bl⟩
 have hx:=(h.below Bl).nx
 refine ae.of (λh5=>?_) (λh5=>?_) <;> simp only[dTx,dFx]at h5
 · have hlt:j<d.nx.length:=by omega
   have hv:=hd.nx0 _ (List.getElem_mem hlt)
   obtain⟨t,ht⟩:∃t:Nat,d.nx[j]=(t:Int):=⟨d.nx[j].toNat,by omega⟩
   have htn:t<d.n:=by show t<d.ac.length;omega
   obtain⟨x,hxt⟩:∃x,hs[t]? =some x:=⟨_,List.getElem?_eq_getElem (by rw[W.1];exact htn)⟩
   have hxm:=List.mem_of_getElem? hxt
   have hmap:(hs.map Hd.v)[t]? =some x.v:=by rw[List.getElem?_map,hxt];rfl
   have htm:t<m:=by rw[hm];exact htn
   have eaddr:ao (some ⟨g,0,none⟩) ((t:Nat):Int) 1=some ⟨g,t,none⟩:=by rw[cT,Nat.zero_add]
   refine⟨⟨⟨by omega,h5⟩,hx.isSome hlt⟩,_,hx.num aB hlt,?_⟩
   rw[ht,eaddr]
   have hxs:=W.2 t x hxt
   have hwl:x.xs.length <=d.nx.length:=by
     rw[hxs]
     unfold iA
     rw[List.length_map]
     have:=List.length_filter_le (λi=>decide ((d.nx.getD i 0).toNat=t)) (List.range j)
     rw[List.length_range]at this
     omega
   refine⟨⟨⟨by omega,by omega⟩,rfl⟩,rfl,rfl,x.a,x.n,x.c,λu hu=>(R.row.below hu).load1 pK rfl hmap,d.k,λu hu=>(A.below hu).load1 aB rfl rfl,by omega,λq27 hq27=>?_⟩
   refine⟨d.k,λu hu=>(A.below hu).load1 aB rfl rfl,by omega,λq31 hq31 k33 hk33 wq hq hcell=>?_⟩
   have e27:q27=((j/d.K:Nat):Int):=by
     rw[hq27,<- hKK]
     show i64.wrap (((j/d.K:Nat):Int))=_
     have h0:j/d.K <=j:=Nat.div_le_self _ _
     revert h0
     generalize j/d.K=q
     intro h0
     exact wrap_i64 (by omega) (by omega)
   have e31:q31=((j%d.K:Nat):Int):=by rw[hq31,<- hKK];rfl
   have Rq:=R.below hq
   have hsrc:Src tP wq NoB (some ⟨k33,0,none⟩) 1 [(q27,q31)]:=Src.at1 Fq (vs:=prC (q27,q31)) hcell rfl
   obtain⟨w34,a34,n34,c34,r34,o34,g34,f34⟩:=dh (ty:=bY) pK Au (by decide) (Rq.own x hxm) (λ_ _ h=>h) (cm:=1) hsrc (by simp;omega)
   have row34:=Rq.row.grown g34 λex=>Rq.out x hxm ex.symm
   obtain⟨wx,sx,rowx,gx⟩:=row34.store uz (i:=t) (v:=.slice a34 n34 c34) rfl (by rw[List.length_map,W.1];omega) (by intro c hc;simp[Value.cells]at hc;subst hc;rfl)
   refine⟨w34,a34,n34,c34,r34,⟨⟨by omega,by omega⟩,rfl⟩,wx,sx,d.nx.length-(j+1),by omega,j+1,hs.set t ⟨a34,n34,c34,x.xs++[(q27,q31)]⟩,by rw[wrap_i64 (by omega) (by omega)];omega,hlt,rfl,?_,?_,?_,?_,?_⟩
   · have hxm':=R.new x hxm
     have fresh34:∀b,bK a34=some b->bK x.a=some b\/wl.heap.size <=b:=λb hb=>by
       rcases f34 b hb with e|e
       · exact .inl e
       · have:=hq.size;exact .inr (by omega)
     have glt:g<wl.heap.size:=R.row.lt
     have ne34:∀b,bK a34=some b->b≠g:=λb hb e=>by
       rcases fresh34 b hb with e2|e2
       · exact R.out x hxm (by rw[e2,e])
       · omega
     refine⟨?_,λy hy=>?_,λy hy=>?_,R.low,λy hy=>?_,λi2 j2 y z hy hz hij bb hb=>?_⟩
     · have e:(hs.set t ⟨a34,n34,c34,x.xs++[(q27,q31)]⟩).map Hd.v=(hs.map Hd.v).take t++[Value.slice a34 n34 c34]++(hs.map Hd.v).drop (t+1):=by
         rw[Q9 (Value.slice a34 n34 c34) _ (by rw[List.length_map,W.1];exact htn),List.map_set];rfl
       rw[e];exact rowx
     · obtain⟨i2,hi2⟩:=List.mem_iff_getElem?.1 hy
       rcases nv hi2 with⟨_,rfl⟩|⟨hne,hi3⟩
       · exact o34.put (λb hb e=>ne34 b hb e) gx
       · have hym:=List.mem_of_getElem? hi3
         refine((Rq.own y hym).other g34 λb hb=>R.apart i2 t y x hi3 hxt hne b hb).put (λb hb e=>R.out y hym (by rw[hb,e])) gx
     · obtain⟨i2,hi2⟩:=List.mem_iff_getElem?.1 hy
       rcases nv hi2 with⟨_,rfl⟩|⟨hne,hi3⟩
       · intro b hb
         rcases fresh34 b hb with e|e
         · exact hxm' b e
         · have:=Bl.size;omega
       · exact R.new y (List.mem_of_getElem? hi3)
     · obtain⟨i2,hi2⟩:=List.mem_iff_getElem?.1 hy
       rcases nv hi2 with⟨_,rfl⟩|⟨hne,hi3⟩
       · intro hb;exact ne34 g hb rfl
       · exact R.out y (List.mem_of_getElem? hi3)
     · rcases nv hy with⟨e1,rfl⟩|⟨hne,hy3⟩ <;> rcases nv hz with⟨e2,rfl⟩|⟨hne2,hz3⟩
       · omega
       · intro hb2
         rcases fresh34 bb hb with e|e
         · exact R.apart j2 t z x hz3 hxt hne2 bb hb2 e
         · have:=(R.own z (List.mem_of_getElem? hz3)).lt bb hb2;omega
       · intro hb2
         rcases fresh34 bb hb2 with e|e
         · exact R.apart i2 t y x hy3 hxt hne bb hb e
         · have:=(R.own y (List.mem_of_getElem? hy3)).lt bb hb;omega
       · exact R.apart i2 j2 y z hy3 hz3 hij bb hb
   · refine⟨by rw[List.length_set];exact W.1,λt2 y hy=>?_⟩
     have hgj:(d.nx.getD j 0).toNat=t:=by
       rw[List.getD_eq_getElem?_getD,List.getElem?_eq_getElem hlt]
       show d.nx[j].toNat=t
       rw[ht];exact Int.toNat_natCast t
     rcases nv hy with⟨rfl,rfl⟩|⟨hne,hy3⟩
     · show x.xs++[(q27,q31)]=_
       rw[Dz,if_pos hgj,hxs,e27,e31]
     · rw[Dz,if_neg (λe=>hne (by rw[<- e,hgj])),List.append_nil]
       exact W.2 t2 y hy3
   · exact((A.below hq).grown g34 (λe=>hk1 x hxm e.symm)).grown gx (fH (by omega))
   · intro y hy
     obtain⟨i2,hi2⟩:=List.mem_iff_getElem?.1 hy
     rcases nv hi2 with⟨_,rfl⟩|⟨hne,hi3⟩
     · intro hb
       rcases f34 k1 hb with e|e
       · exact hk1 x hxm e
       · have:=A.lt;have:=hq.size;omega
     · exact hk1 y (List.mem_of_getElem? hi3)
   · have B1:=ab Bl hq Bl.size
     have B2:bW w w34:=B1.trans ((Chg.row g34).below B1.size λk hk=>R.new x hxm k (by simpa using hk))
     exact Below.put B2 gx R.low
 · have:j=d.nx.length:=by omega
   subst this
   have hsl:hs.length=d.n:=W.1
   refine⟨_,m,m,rfl,⟨by rw[List.length_map,List.length_range];exact hm,Nat.le_refl _,by show m <=9223372036854775807;omega,.inr ⟨g,0,rfl,R.row.lt,R.low,hs.map Hd.v,⟨?_,λi hi=>?_⟩,λi hi=>?_⟩⟩,Bl⟩
   · rw[List.length_map,List.length_map,List.length_range]
     show hs.length=d.n*1
     omega
   · have hi':i<hs.length:=by rw[List.length_map,List.length_range]at hi;omega
     have hxi:=R.own hs[i] (List.getElem_mem hi')
     have ex:hs[i].xs=iA d d.nx.length i:=W.2 i hs[i] (List.getElem?_eq_getElem hi')
     refine⟨hs[i].a,hs[i].n,hs[i].c,?_,?_⟩
     · show((hs.map Hd.v).drop (i*1)).take 1=_
       rw[Nat.mul_one,List.drop_eq_getElem_cons (by rw[List.length_map];exact hi'),List.take_succ_cons,List.take_zero,List.getElem_map]
       rfl
     · rw[List.getElem_map,List.getElem_range,<- ex]
       exact hxi.sl (λb _ hb=>hb.elim) λb hb=>R.new hs[i] (List.getElem_mem hi') b hb
   · rw[Nat.zero_add];exact R.row.cell i
def tD (p:Int×Nat):Pi:=(p.1,((p.2:Nat):Int))
structure Na (ta ts te ti:TypeId)(w0:World)(vals:List Value)(k2 k6 s1 s2:Nat)(oa:Option Addr)(on oc:Nat)(out:List Int)(ha:Option Addr)(hn hc:Nat)(H:Hp)(wa:Option Addr)(wn wc:Nat)(ways:List (List Pi))(w:World):Prop where
 dcp:am w k2 ta vals
 out:Ow cI ti w NoB oa on oc out
 hp:Ei ts te w k6 ha hn hc (H.map tD)
 way:Sl R4 w (λg=>s1 <=g/\g<s2) wa wn wc ways
 o1:∀g,bK oa=some g->k2<g/\g<k6
 o2:k6<s1
 o3:s1 <=s2
 o4:s2 <=w.heap.size
 o5:∀g,bK ha=some g->k6<g/\(g<s1\/s2 <=g)
 o6:w0.heap.size <=k2
 o7:k2<k6
 bw:bW w0 w
section
variable {ta ts te ti:TypeId} {w0 w w':World} {vals:List Value} {k2 k6 s1 s2:Nat} {oa ha wa:Option Addr} {on oc hn hc wn wc:Nat} {out:List Int} {H:Hp} {ways:List (List Pi)}
theorem Na.below (h:Na ta ts te ti w0 vals k2 k6 s1 s2 oa on oc out ha hn hc H wa wn wc ways w)(hb:bW w w'):Na ta ts te ti w0 vals k2 k6 s1 s2 oa on oc out ha hn hc H wa wn wc ways w':=
 { h with
   dcp:=h.dcp.below hb
   out:=h.out.below hb
   hp:=h.hp.below hb
   way:=h.way.below hb
   o4:=Nat.le_trans h.o4 hb.size
   bw:=ab h.bw hb h.bw.size }
theorem Na.bag (h:Na ta ts te ti w0 vals k2 k6 s1 s2 oa on oc out ha hn hc H wa wn wc ways w){ha':Option Addr}{hn' hc':Nat}{H':Hp}(hp':Ei ts te w' k6 ha' hn' hc' (H'.map tD))(hch:Chg (k6::(bK ha).toList) w w')
   (hf:∀g,bK ha'=some g->bK ha=some g\/w.heap.size <=g):Na ta ts te ti w0 vals k2 k6 s1 s2 oa on oc out ha' hn' hc' H' wa wn wc ways w':=by
 have mem:∀k:Nat,k∈k6::(bK ha).toList->k=k6\/bK ha=some k:=λk hk=>by
   rcases List.mem_cons.1 hk with e|e
   · exact .inl e
   · exact .inr (by simpa using e)
 have p2:=h.o2
 have p3:=h.o3
 have p4:=h.o4
 have p6:=h.o6
 have p7:=h.o7
 have hsz:=hch.size
 exact
   { dcp:=hch.arr h.dcp λhm=>by
       rcases mem _ hm with e|e
       · omega
       · have:=h.o5 _ e;omega
     out:=h.out.keep (hch.keep.mono λb hb=>by
       rcases hb with hb|hb
       · exact hb.elim
       · have:=h.o1 b hb.symm
         intro hm
         rcases mem _ hm with e|e
         · omega
         · have:=h.o5 _ e;omega)
     hp:=hp'
     way:=h.way.keep (hch.keep.mono λb hb hm=>by
       rcases mem _ hm with e|e
       · omega
       · have:=h.o5 _ e;omega)
     o1:=h.o1,o2:=p2,o3:=p3,o4:=by omega
     o5:=λg hg=>by
       rcases hf g hg with e|e
       · exact h.o5 g e
       · omega
     o6:=p6,o7:=p7
     bw:=h.bw.trans (hch.below h.bw.size λk hk=>by
       rcases mem _ hk with e|e
       · omega
       · have:=h.o5 _ e;omega) }
theorem Na.put (h:Na ta ts te ti w0 vals k2 k6 s1 s2 oa on oc out ha hn hc H wa wn wc ways w){out':List Int}(ho:Ow cI ti w' NoB oa on oc out')(hg:w.grownBy w' (bK oa)):Na ta ts te ti w0 vals k2 k6 s1 s2 oa on oc out' ha hn hc H wa wn wc ways w':=by
 have hch:=Chg.row hg
 have mem:∀k:Nat,k∈(bK oa).toList->k2<k/\k<k6:=λk hk=>h.o1 k (by simpa using hk)
 have p2:=h.o2
 have p3:=h.o3
 have p4:=h.o4
 have p6:=h.o6
 have p7:=h.o7
 have hsz:=hch.size
 exact
   { dcp:=hch.arr h.dcp λhm=>by have:=mem _ hm;omega
     out:=ho
     hp:=⟨hch.arr h.hp.var λhm=>(by have:=mem _ hm;omega),h.hp.row.keep (hch.keep.mono λb hb hm=>by
       have:=mem _ hm
       rcases hb with hb|hb
       · exact hb.elim
       · have:=h.o5 b hb.symm;omega),h.hp.ne⟩
     way:=h.way.keep (hch.keep.mono λb hb hm=>by have:=mem _ hm;omega)
     o1:=h.o1,o2:=p2,o3:=p3,o4:=by omega
     o5:=h.o5,o6:=p6,o7:=p7
     bw:=h.bw.trans (hch.below h.bw.size λk hk=>by have:=mem _ hk;omega) }
end
abbrev Lf:=Na af aU aN aw
theorem Ix {out:List Int}{s:Nat}(h:s<out.length):out[s]=oAt out s:=by
 unfold oAt
 rw[List.getD_eq_getElem?_getD,List.getElem?_eq_getElem h];rfl
theorem Lc {cs:List Int}{s:Nat}(h:s<cs.length):cs[s]=cAt cs s:=by
 unfold cAt
 rw[List.getD_eq_getElem?_getD,List.getElem?_eq_getElem h];rfl
def unC (p:Pi):Int×Nat:=(p.1,p.2.toNat)
theorem JN (p:Int×Nat):unC (tD p)=p:=by
 obtain⟨a,b⟩:=p
 unfold unC tD
 simp
theorem CP {xs:List Pi}{H:Hp}(h:xs.Perm (H.map tD)):∃H':Hp,H'.map tD=xs/\H'.Perm H:=by
 refine⟨xs.map unC,?_,?_⟩
 · rw[List.map_map]
   conv=>rhs;rw[<- List.map_id xs]
   refine List.map_congr_left λx hx=>?_
   obtain⟨q,_,rfl⟩:=List.mem_map.1 (h.mem_iff.1 hx)
   show tD (unC (tD q))=tD q
   rw[JN]
 · have:=h.map unC
   rw[List.map_map]at this
   have e:H.map (unC ∘ tD)=H:=by
     conv=>rhs;rw[<- List.map_id H]
     exact List.map_congr_left λx _=>JN x
   rwa [e]at this
theorem NY {p:Pi}{ys:List Pi}{H:Hp}(h:(H.map tD).Perm (p::ys)):∃(q:Int×Nat) (Y:Hp),p=tD q/\ys=Y.map tD/\H.Perm (q::Y):=by
 obtain⟨L,e,hL⟩:=CP h.symm
 cases L with
 | nil=>simp at e
 | cons q Y=>
   simp only[List.map_cons,List.cons.injEq]at e
   exact⟨q,Y,e.1.symm,e.2.symm,hL.symm⟩
def Ni (d:DA)(cs:List Int)(w:World)(v:Value)(w':World):Prop:=∃(oa:Option Addr) (on oc:Nat) (out:List Int),v=.slice oa on oc/\Ow cI aw w' NoB oa on oc out/\vH d cs out/\bI w.heap.size oa/\bW w w'
theorem Gd {w:World}{a b a1:Option Addr}{n c m e l1 c1:Nat}{d:DA}{cs:List Int}(h:DaS w a n c b m e d)(hd:d.Ok)(hs:Sl cI w kj a1 l1 c1 cs)(hc:wM cs){C:Int}(hC:Nk cs C)(hk:cs.length=d.K){M:Nat}
   (hM:((d.n-1:Nat):Int)*C <=(M:Int)) (hM2:d.n*(M+3) <=900000000000):
   Cf tM #[daV a n c b m e d,.slice a1 l1 c1] w (Ret (Ni d cs w)):=by
 apply Eb
 have hm:=h.ac.len
 have hl1:=hs.len
 have hN2:d.n <=65536:=hd.n2
 have hN1:1 <=d.n:=hd.n1
 have hmn:m=d.n:=hm
 subst hmn
 intro k2 w2 hk2 hw2 k14 w14 hk14 hw14
 have b2:=(hw2▸ah w _:bW w w2)
 have b14:=(hw14▸ah w2 _:bW w2 w14)
 have A2:am w2 k2 af [vI d.k,vI d.st,.slice a n c,.slice b d.n e]:=am.new hk2 hw2
 have A14:am w14 k14 aw [vI INF]:=am.new hk14 hw14
 refine⟨rfl,b,d.n,e,(A2.below b14).load1 bf rfl rfl,?_⟩
 have hsl:Sl cI w14 kj (some ⟨k14,0,none⟩) 1 1 [INF]:=by
   refine⟨rfl,Nat.le_refl _,by decide,.inr ⟨k14,0,rfl,A14.lt,trivial,[vI INF],iK.one eE,λj hj=>?_⟩⟩
   rw[Nat.zero_add];exact A14.cell j
 refine ax (rk hsl (k:=d.n) hN1 (by omega)) ?_
 rintro _ w18 ⟨oa,rfl,O18,f18,b18⟩
 refine⟨oa,d.n,d.n,rfl,?_⟩
 intro k6 w6 hk6 hw6
 have b6:=(hw6▸ah w18 _:bW w18 w6)
 have A6:am w6 k6 aU [.slice none 0 0]:=am.new hk6 hw6
 have l2:=A2.lt
 have s14:=b14.size
 have B6:bW w2 w6:=ab (ab b14 b18 b14.size) b6 (Nat.le_trans b14.size b18.size)
 have S0:Lf w [vI d.k,vI d.st,.slice a n c,.slice b d.n e] k2 k6 (k6+1) (k6+1) oa d.n d.n (List.replicate d.n INF) none 0 0 [] none 0 0 [] w6:=
   { dcp:=A2.below B6
     out:=O18.below b6
     hp:=⟨A6,Ow.nil _ _ _ _,λg hg=>by cases hg⟩
     way:=Sl.nil _ _ _ _ _ (Nat.zero_le _)
     o1:=λg hg=>by have:=f18 g hg;have:=O18.lt g hg;omega
     o2:=by omega
     o3:=Nat.le_refl _
     o4:=A6.lt
     o5:=λg hg=>by cases hg
     o6:=by omega
     o7:=by have:=b18.size;omega
     bw:=ab b2 B6 b2.size }
 refine⟨rfl,b,d.n,e,S0.dcp.load1 bf rfl rfl,?_⟩
 clear A2 A14 hsl O18 A6 b6 b18 b14 B6 hw2 hw14 hw6
 refine⟨λmm n22 wl=>∃(i:Nat) (out:List Int) (ha:Option Addr) (hn hc':Nat) (H:Hp),n22=(i:Int)/\i <=d.n/\mm=d.n-i/\Lf w [vI d.k,vI d.st,.slice a n c,.slice b d.n e] k2 k6 (k6+1) (k6+1) oa d.n d.n out ha hn hc' H none 0 0 [] wl/\
   out.length=d.n/\(∀s,s<d.n->oAt out s=if s<i/\d.acc s=true then 0 else INF)/\(∀cc s,(cc,s)∈H ↔ cc=0/\s<i/\d.acc s=true)/\H.length <=i,
   ⟨_,0,_,none,0,0,[],rfl,Nat.zero_le _,rfl,S0,by simp,λs hs=>?_,λcc s=>?_,Nat.le_refl _⟩,?_⟩
 · rw[if_neg (λh=>Nat.not_lt_zero _ h.1)]
   simp[oAt,hs]
 · simp
 clear S0
 intro mm n22
 refine aC.of ?_ _
 rintro wl ⟨i,out,ha,hn,hc',H,rfl,hi,rfl,S,hol,hout,hH,hHl⟩
 have hac:=(h.below S.bw).ac
 refine ae.of (λh5=>?_) (λh5=>?_) <;> simp only[dTx,dFx]at h5
 · have hlt:i<d.n:=by omega
   have hlt':i<d.ac.length:=hlt
   refine⟨⟨⟨by omega,h5⟩,hac.isSome hlt'⟩,_,hac.tru bv hlt',?_⟩
   have eacc:d.ac[i]=d.acc i:=by
     unfold DA.acc
     rw[List.getD_eq_getElem?_getD,List.getElem?_eq_getElem hlt'];rfl
   rw[eacc]
   refine ae.of (λhb=>?_) (λhb=>?_)
   · have hio:i<out.length:=by omega
     obtain⟨wx,sx,ox,gx⟩:=S.out.store ff (λ_ _ h=>h) (i:=(i:Int)) (by rw[Int.toNat_natCast];exact hio) (k:=1) rfl (v:=vI 0) (x:=0) eE
     rw[Int.toNat_natCast]at ox
     have S2:=S.put ox gx
     refine⟨⟨⟨by omega,h5⟩,S.out.all.isSome hio⟩,wx,sx,?_⟩
     refine ax (An S2.hp (by rw[List.length_map];omega) ((0:Int),((i:Nat):Int))) ?_
     rintro _ w35 ⟨rfl,ha2,hn2,hc2,xs',hp,H2,hch,hf⟩
     obtain⟨H',eH,hperm⟩:=CP (H:=(0,i)::H) (show xs'.Perm (((0,i)::H).map tD) from hp)
     have S3:=S2.bag (H':=H') (by rw[eH];exact H2) hch hf
     refine⟨rfl,d.n-(i+1),by omega,i+1,_,ha2,hn2,hc2,H',by rw[wrap_i64 (by omega) (by omega)];omega,hlt,rfl,S3,by rw[List.length_set];exact hol,λs hs=>?_,λcc s=>?_,?_⟩
     · by_cases e1:i=s
       · subst e1
         rw[eU hio,if_pos ⟨by omega,hb⟩]
       · rw[dw e1,hout s hs]
         by_cases e2:s<i/\d.acc s=true
         · rw[if_pos e2,if_pos ⟨by omega,e2.2⟩]
         · rw[if_neg e2,if_neg (λh=>e2 ⟨by omega,h.2⟩)]
     · rw[hperm.mem_iff,List.mem_cons,hH]
       constructor
       · rintro(e1|⟨e1,e2,e3⟩)
         · obtain⟨rfl,rfl⟩:=Prod.mk.inj e1
           exact⟨rfl,by omega,hb⟩
         · exact⟨e1,by omega,e3⟩
       · rintro⟨rfl,e2,e3⟩
         by_cases e4:s=i
         · exact .inl (by rw[e4])
         · exact .inr ⟨rfl,by omega,e3⟩
     · rw[hperm.length_eq,List.length_cons];omega
   · refine⟨d.n-(i+1),by omega,i+1,out,ha,hn,hc',H,by rw[wrap_i64 (by omega) (by omega)];omega,hlt,rfl,S,hol,λs hs=>?_,λcc s=>?_,by omega⟩
     · rw[hout s hs]
       by_cases e2:s<i/\d.acc s=true
       · rw[if_pos e2,if_pos ⟨by omega,e2.2⟩]
       · rw[if_neg e2,if_neg (λh=>e2 ⟨?_,h.2⟩)]
         have:s≠i:=λe=>by rw[e,hb]at h;exact absurd h.2 (by simp)
         omega
     · rw[hH]
       refine and_congr_right λ_=>⟨λh=>⟨by omega,h.2⟩,λh=>⟨?_,h.2⟩⟩
       have:s≠i:=λe=>by rw[e,hb]at h;exact absurd h.2 (by simp)
       omega
 have hin:i=d.n:=by omega
 subst hin
 have R0:Rnd d cs C out H:=Rnd.first hol (λs hs=>by rw[hout s hs];simp only[hs,true_and]) hH
 refine⟨_,_,a,n,c,b,d.n,e,bG.load0 (cs:=[vI d.k,vI d.st,.slice a n c,.slice b d.n e]) S.dcp rfl,?_⟩
 refine ax (Gb (h.below S.bw) hd) ?_
 rintro _ w38 ⟨wa,wn,wc,rfl,hway,b38⟩
 refine⟨wa,wn,wc,rfl,?_⟩
 obtain⟨s1,hs1⟩:∃s1,s1=wl.heap.size:=⟨_,rfl⟩
 obtain⟨s2,hs2⟩:∃s2,s2=w38.heap.size:=⟨_,rfl⟩
 have S1:Lf w [vI d.k,vI d.st,.slice a n c,.slice b d.n e] k2 k6 s1 s2 oa d.n d.n out ha hn hc' H wa wn wc ((List.range d.n).map (iA d d.nx.length)) w38:=
   { S.below b38 with
     way:=hway.mono λb hb hA=>⟨by omega,by omega⟩
     o2:=by have:=S.hp.var.lt;omega
     o3:=by have:=b38.size;omega
     o4:=by omega
     o5:=λg hg=>⟨(S.o5 g hg).1,.inl (by have:=S.hp.row.lt g hg;omega)⟩ }
 have hsum0:=MH M out
 have hBd:H.length+II M out <=d.n*(M+3):=by
   rw[hol]at hsum0
   have e1:d.n*(M+3)=d.n*(M+1)+2*d.n:=by rw[show M+3=(M+1)+2 by omega,Nat.mul_add];omega
   omega
 clear hway b38 S hs1 hs2 hout hH hHl
 refine⟨λm1 wl1=>∃(out:List Int) (ha:Option Addr) (hn hc':Nat) (H:Hp),m1=2*II M out+H.length/\H.length+II M out <=d.n*(M+3)/\Rnd d cs C out H/\Lf w [vI d.k,vI d.st,.slice a n c,.slice b d.n e] k2 k6 s1 s2 oa d.n d.n out ha hn hc' H wa wn wc ((List.range d.n).map (iA d d.nx.length)) wl1,
   ⟨_,out,ha,hn,hc',H,rfl,hBd,R0,S1⟩,?_⟩
 clear S1 R0 hBd hol hsum0
 clear out ha hn hc' H
 intro m1
 refine aC.of ?_ _
 rintro wl1 ⟨out,ha,hn,hc',H,rfl,hBd,R,S⟩
 have hhl:=S.hp.row.len
 rw[List.length_map]at hhl
 have hol:=R.inv.len
 refine⟨ha,hn,hc',S.hp.var.load1 bN rfl rfl,ae.of (λh6=>?_) (λh6=>?_)⟩ <;> simp only[gt_iff_lt,dTx,dFx]at h6
 · have hHl:0<(H.map tD).length:=by rw[List.length_map];omega
   refine ax (Is S.hp (by rw[List.length_map];omega) hHl) ?_
   rintro _ w43 ⟨p,ys,rfl,hp,H43,hch⟩
   obtain⟨q,Y,rfl,rfl,hperm⟩:=NY hp
   obtain⟨c0,st⟩:=q
   have hlen:=hperm.length_eq
   rw[List.length_cons]at hlen
   have S43:=S.bag (H':=Y) H43 hch (λg hg=>.inl hg)
   refine⟨_,rfl,c0,((st:Nat):Int),BL (tD (c0,st)) w43,?_⟩
   intro k10 w10 hk10 hw10
   have b10:=(hw10▸ah w43 _:bW w43 w10)
   obtain⟨wx1,sx1,P10,g10⟩:=Af.store0 (P:=prog) (cs:=[vI c0,vI ((st:Nat):Int)]) rfl (aW rfl (aW rfl jA)) (am.new hk10 hw10:am w10 k10 aN [vI 0,vI 0]) rfl
   have bx1:bW w43 wx1:=Below.put b10 g10 (by omega)
   have Sx:=S43.below bx1
   have hst:st<d.n:=(R.hin _ (hperm.mem_iff.2 List.mem_cons_self)).1
   have hsto:st<out.length:=by omega
   have k10a:∀g,bK ha=some g->g≠k10:=λg hg=>by have:=S43.hp.row.lt g hg;omega
   have k10o:∀g,bK oa=some g->g≠k10:=λg hg=>by have:=S43.out.lt g hg;omega
   have k10v:k6≠k10:=by have:=S43.hp.var.lt;omega
   refine⟨wx1,sx1,rfl,c0,λu hu=>(P10.below hu).load1 aB rfl rfl,rfl,((st:Nat):Int),λu hu=>(P10.below hu).load1 aB rfl rfl,⟨⟨by omega,by omega⟩,Sx.out.all.isSome hsto⟩,oAt out st,λu hu=>by rw[<- Ix hsto];exact((Sx.below hu).out.all).num aB hsto,λwq hq=>?_⟩
   have Sq:=Sx.below hq
   have Pq:=P10.below hq
   refine ae.of (λh7=>?_) (λh7=>?_) <;> simp only[gt_iff_lt,dTx,dFx]at h7
   · exact⟨2*II M out+Y.length,by omega,out,ha,_,hc',Y,rfl,by omega,R.skip hperm h7,Sq⟩
   have R2:=R.take hd hC hperm h7
   have hwl:((List.range d.n).map (iA d d.nx.length)).length=d.n:=by simp
   have hst2:st<((List.range d.n).map (iA d d.nx.length)).length:=by rw[hwl];exact hst
   have hwn:=Sq.way.len
   obtain⟨v57,ld57,a57,l57,c57,ev57,S57⟩:=Sq.way.load1 (P:=prog) pK rfl rfl (i:=((st:Nat):Int)) (by rw[Int.toNat_natCast];exact hst2)
   have ev57:v57=.slice a57 l57 c57:=by simpa using ev57
   subst ev57
   have ew:((List.range d.n).map (iA d d.nx.length))[(((st:Nat):Int)).toNat]'(by rw[Int.toNat_natCast];exact hst2)=iA d d.nx.length st:=by
     simp
   rw[ew]at S57
   refine⟨rfl,((st:Nat):Int),Pq.load1 aB rfl rfl,⟨⟨by omega,by omega⟩,Sq.way.isSome hst2⟩,a57,l57,c57,ld57,?_⟩
   have hC2:d.n*(M+3) <=900000000000:=hM2
   have k10s:s2 <=k10:=by have:=S43.o4;omega
   refine⟨λm2 n59 wl2=>∃(j:Nat) (out':List Int) (ha':Option Addr) (hn' hc2:Nat) (Hh:Hp),n59=(j:Int)/\j <=(iA d d.nx.length st).length/\m2=(iA d d.nx.length st).length-j/\
       2*II M out'+Hh.length<2*II M out+H.length/\Hh.length+II M out' <=d.n*(M+3)/\Mid d cs C out' Hh st c0 j/\
       Lf w [vI d.k,vI d.st,.slice a n c,.slice b d.n e] k2 k6 s1 s2 oa d.n d.n out' ha' hn' hc2 Hh wa wn wc ((List.range d.n).map (iA d d.nx.length)) wl2/\
       am wl2 k10 aN [vI c0,vI ((st:Nat):Int)]/\(∀g,bK ha'=some g->g≠k10)/\Sl tP wl2 (λg=>s1 <=g/\g<s2) a57 l57 c57 (iA d d.nx.length st),
     ⟨_,0,out,ha,_,hc',Y,rfl,Nat.zero_le _,rfl,by omega,by omega,R2,Sq,Pq,k10a,S57⟩,?_⟩
   intro m2 n59
   refine aC.of ?_ _
   rintro wl2 ⟨j,out',ha',hn',hc2,Hh,rfl,hj,rfl,hmea,hbig,Mi,S2,P2,k10b,W57⟩
   have hwlen:=W57.len
   have hol':=Mi.inv.len
   refine ae.of (λh8=>?_) (λh8=>?_) <;> simp only[dTx,dFx]at h8
   · have hjl:j<(iA d d.nx.length st).length:=by omega
     obtain⟨f,x,efx,hf,hx,hto⟩:=(EE hd).1 (List.getElem_mem hjl)
     have hjq:(iA d d.nx.length st)[j]? =some ((f:Int),(x:Int)):=by rw[List.getElem?_eq_getElem hjl,efx]
     have hxc:x<cs.length:=by omega
     have hfo:f<out'.length:=by omega
     have hcx:=hc.at hxc
     have hfin:=Mi.fin
     have hlo0:=(Mi.inv.lo st Mi.lt).1
     rw[Mi.cost]at hlo0
     have hp:=W57.pair (P:=prog) OH hjl
     rw[efx]at hp
     refine⟨⟨⟨by omega,h8⟩,W57.isSome hjl⟩,(f:Int),(x:Int),hp,?_⟩
     intro k12 w12 hk12 hw12
     have b12:=(hw12▸ah wl2 _:bW wl2 w12)
     obtain⟨wx2,sx2,P12,g12⟩:=OH.store0 (P:=prog) (cs:=[vI (f:Int),vI (x:Int)]) rfl (aW rfl (aW rfl jA)) (am.new hk12 hw12:am w12 k12 fK [vI 0,vI 0]) rfl
     have bx2:bW wl2 wx2:=Below.put b12 g12 (by omega)
     have Sy:=S2.below bx2
     have Py:=P2.below bx2
     have hcst:cs[x]=cAt cs x:=Lc hxc
     refine⟨wx2,sx2,rfl,c0,λu hu=>(Py.below hu).load1 aB rfl rfl,rfl,(x:Int),λu hu=>(P12.below hu).load1 aB rfl rfl,⟨⟨by omega,by omega⟩,hs.isSome hxc⟩,cAt cs x,λu hu=>by rw[<- hcst];exact(hs.below (Sy.below hu).bw).num aB hxc,λwq1 hq1=>?_⟩
     have Sz:=Sy.below hq1
     have Pz:=P12.below hq1
     have Pk:=Py.below hq1
     have Wz:=(W57.below bx2).below hq1
     have hoz:out'[f]=oAt out' f:=Ix hfo
     have ew1:i64.wrap (c0+cAt cs x)=c0+cAt cs x:=wrap_i64 (by omega) (by omega)
     have ewj:i64.wrap (((j:Nat):Int)+1)=((j+1:Nat):Int):=by rw[wrap_i64 (by omega) (by have:=W57.le;omega)];omega
     rw[ew1,ewj]
     refine⟨rfl,(f:Int),Pz.load1 aB rfl rfl,⟨⟨by omega,by omega⟩,Sz.out.all.isSome hfo⟩,oAt out' f,by rw[<- hoz];exact Sz.out.all.num aB hfo,ae.of (λh9=>?_) (λh9=>?_)⟩ <;> simp only[dTx,dFx]at h9
     · obtain⟨wx3,sx3,ox3,gx3⟩:=Sz.out.store ff (λ_ _ h=>h) (i:=(f:Int)) (by rw[Int.toNat_natCast];exact hfo) (k:=1) rfl (v:=vI (c0+cAt cs x)) (x:=c0+cAt cs x) eE
       rw[Int.toNat_natCast]at ox3
       have S3:=Sz.put ox3 gx3
       have ne12:some k12≠bK oa:=λe=>by have:=S2.out.lt _ e.symm;omega
       have ne10:some k10≠bK oa:=λe=>k10o _ e.symm rfl
       refine⟨rfl,(f:Int),Pz.load1 aB rfl rfl,⟨⟨by omega,by omega⟩,Sz.out.all.isSome hfo⟩,wx3,sx3,rfl,(f:Int),(Pz.grown gx3 ne12).load1 aB rfl rfl,?_⟩
       refine ax (An S3.hp (by rw[List.length_map];omega) (c0+cAt cs x,(f:Int))) ?_
       rintro _ w89 ⟨rfl,ha3,hn3,hc3,xs3,hp3,H3,hch3,hf3⟩
       obtain⟨H4,eH4,hperm4⟩:=CP (H:=(c0+cAt cs x,f)::Hh) (show xs3.Perm (((c0+cAt cs x,f)::Hh).map tD) from hp3)
       have S4:=S3.bag (H':=H4) (by rw[eH4];exact H3) hch3 hf3
       have Mi2:=Mi.yes hd hc hC hk (H':=H4) hjq hf hx hto h9 (λp=>by rw[hperm4.mem_iff,List.mem_cons])
       have hl4:=hperm4.length_eq
       rw[List.length_cons]at hl4
       have hset:oAt (out'.set f (c0+cAt cs x)) f=c0+cAt cs x:=eU hfo _
       have hI:=Aq
       have hle:=(Mi2.inv.bnd f hf (by rw[hset];omega)).leC (by have:=hC.lo;omega) hf
       rw[hset]at hle
       have hsum:=JM (M:=M) (v:=c0+cAt cs x) (out:=out') (f:=f) hfo (by omega) (by omega)
       have mem4:∀k:Nat,k∈k6::(bK ha').toList->k≠k10/\(k<s1\/s2 <=k):=λk hk=>by
         rcases List.mem_cons.1 hk with e|e
         · subst e;exact⟨k10v,.inl (by have:=S2.o2;omega)⟩
         · have e2:bK ha'=some k:=by simpa using e
           exact⟨k10b k e2,(S2.o5 k e2).2⟩
       refine⟨rfl,_,?_,j+1,_,ha3,hn3,hc3,H4,rfl,hjl,rfl,?_,?_,Mi2,S4,?_,λg hg=>?_,?_⟩
       · omega
       · omega
       · omega
       · exact hch3.arr (Pk.grown gx3 ne10) λhm=>(mem4 _ hm).1 rfl
       · rcases hf3 g hg with e|e
         · exact k10b g e
         · have:=(Pk.grown gx3 ne10).lt;omega
       · exact(Wz.keep (lZ gx3 λg hg e=>(by have:=S2.o1 g e.symm;have:=S2.o2;omega))).keep (hch3.keep.mono λg hg hm=>by have:=(mem4 _ hm).2;omega)
     · exact⟨_,by omega,j+1,out',ha',hn',hc2,Hh,rfl,hjl,rfl,hmea,hbig,Mi.no hjq h9,Sz,Pk,k10b,Wz⟩
   · exact⟨2*II M out'+Hh.length,by omega,out',ha',hn',hc2,Hh,rfl,hbig,Mi.over hd (by omega),S2⟩
 · have hHn:H=[]:=List.eq_nil_of_length_eq_zero (by omega)
   subst hHn
   refine⟨oa,d.n,d.n,out,rfl,S.out,R.left hd hc hC hk,λg hg=>?_,S.bw⟩
   have:=S.o1 g hg
   have:=S.o6
   omega
def wI (w:List Nat):List Int:=w.map fun(x:Nat)=>(x:Int)
theorem vH.none {d:DA}{cs out:List Int}(h:vH d cs out)(hd:d.Ok)(h0:oAt out d.s=INF)(v:List Nat): ¬ d.Lang d.s v:=λhv=>(h.le hd hd.s_lt hv).1 h0
def JY (d:DA)(cs:List Int):Bool:=okD d&&(decide ((cs.length:Int)=d.k)&&cs.all inC)
def KP (d:DA)(cs:List Int)(most:Int)(w:World)(v:Value)(w':World):Prop:=bW w w'/\
 (JY d cs=false/\v=.tuple #[.slice none 0 0,.bool false,vI 151]\/
  JY d cs=true/\((∀u,d.Lang d.s u->most<fL cs u)/\v=.tuple #[.slice none 0 0,.bool false,vI 0]\/
    ∃(u:List Nat) (a:Option Addr) (n c:Nat),v=.tuple #[.slice a n c,.bool true,vI 0]/\Ow cI aw w' NoB a n c (wI u)/\bI w.heap.size a/\vK cs (d.Lang d.s) u/\fL cs u <=most))
theorem vX {w:World}{a b:Option Addr}{n c m e:Nat}{a1:Option Addr}{l1 c1:Nat}{d:DA}{cs:List Int}(h:DaS w a n c b m e d)(hs:Sl cI w kj a1 l1 c1 cs)(most:Int)(hb0:most<INF)
   (hM:d.Ok->wM cs->cs.length=d.K->∃(C:Int) (M:Nat),Nk cs C/\((d.n-1:Nat):Int)*C <=(M:Int)/\d.n*(M+3) <=900000000000):
   Cf ig #[daV a n c b m e d,.slice a1 l1 c1,vI most] w (Ret (KP d cs most w)):=by
 apply Db
 intro k3 w3 hk3 hw3
 have hl1:=hs.len
 have b3:=(hw3▸ah w _:bW w w3)
 have A3:am w3 k3 af [vI d.k,vI d.st,.slice a n c,.slice b m e]:=am.new hk3 hw3
 have ask:JY d cs=true->d.Ok/\wM cs/\cs.length=d.K:=λhk=>by
   unfold JY at hk
   simp only[Bool.and_eq_true,dTx]at hk
   have ho:=di.1 hk.1
   have:=ho.kk
   exact⟨ho,Cr.1 hk.2.2,by omega⟩
 refine fY (λw'=>bW w3 w'/\JY d cs=true) ?_ ?_
 · refine⟨_,_,a,n,c,b,m,e,bG.load0 (cs:=[vI d.k,vI d.st,.slice a n c,.slice b m e]) A3 rfl,?_⟩
   refine ax (ko (h.below b3)) ?_
   rintro _ w15 ⟨rfl,b15⟩
   have B15:=ab b3 b15 b3.size
   refine⟨_,rfl,ae.of (λh1=>⟨B15,.inl ⟨by unfold JY;rw[show okD d=false by simpa using h1];rfl,rfl⟩⟩) (λh1=>⟨rfl,d.k,(A3.below b15).load1 aB rfl rfl,?_⟩)⟩
   have h1:okD d=true:=by simpa using h1
   refine ae.of (λh2=>⟨B15,.inl ⟨?_,rfl⟩⟩) (λh2=>?_)
   · have h2:((l1:Nat):Int)≠d.k:=by simpa using h2
     unfold JY
     rw[decide_eq_false (by rw[<- hl1];exact h2),Bool.false_and,Bool.and_false]
   have h2:((l1:Nat):Int)=d.k:=by simpa using h2
   refine ax (Gc (hs.below B15)) ?_
   rintro _ w26 ⟨rfl,rfl⟩
   refine⟨_,rfl,ae.of (λh3=>⟨B15,.inl ⟨by unfold JY;rw[show cs.all inC=false by simpa using h3,Bool.and_false,Bool.and_false],rfl⟩⟩) (λh3=>⟨b15,?_⟩)⟩
   unfold JY
   rw[h1,decide_eq_true (by rw[<- hl1];exact h2),show cs.all inC=true by simpa using h3];rfl
 rintro wj ⟨bj,hask⟩
 obtain⟨hd,hf,hkk⟩:=ask hask
 obtain⟨C,M,hC,hM1,hM2⟩:=hM hd hf hkk
 have Bj:=ab b3 bj b3.size
 refine⟨_,_,a,n,c,b,m,e,bG.load0 (cs:=[vI d.k,vI d.st,.slice a n c,.slice b m e]) (A3.below bj) rfl,?_⟩
 have hmn:m=d.n:=h.ac.len
 have hmn2:=hmn
 subst hmn2
 refine ax (Gd (h.below Bj) hd (hs.below Bj) hf hC hkk hM1 hM2) ?_
 rintro _ w31 ⟨oa,on,oc,out,rfl,O,L,fo,b31⟩
 refine⟨oa,on,oc,rfl,?_⟩
 have hsn:=hd.s_lt
 have hss:((d.s:Nat):Int)=d.st:=by have:=hd.s0;show((d.st.toNat:Nat):Int)=d.st;omega
 have hon:=O.len
 have hol:=L.len
 have B31:=ab Bj b31 Bj.size
 have A31:am w31 k3 af [vI d.k,vI d.st,.slice a n c,.slice b d.n e]:=(A3.below bj).below b31
 have hso:d.s<out.length:=by omega
 have lst:∀{u:World},bW w31 u->(Instr.loadAt aw (.pointer (some ⟨k3,1,none⟩))).run prog u=.ok (vI ((d.s:Nat):Int)) u:=λhu=>by rw[hss];exact(A31.below hu).load1 aB rfl rfl
 have lout:∀{s:Nat} {u:World},s<d.n->bW w31 u->(Instr.loadAt aw (.pointer (ao oa (s:Int) 1))).run prog u=.ok (vI (oAt out s)) u:=fun{s u} hs hu=>by
   have hsl:s<out.length:=by omega
   rw[<- Ix hsl];exact(O.below hu).all.num aB hsl
 have isO:∀{s:Nat},s<d.n->Option.isSome oa=true:=fun{s} hs=>O.all.isSome (i:=s) (by omega)
 have rf:=Below.refl w31.heap.size w31
 refine fY (λw'=>w'=w31/\oAt out d.s <=most/\oAt out d.s≠INF) ?_ ?_
 · refine⟨rfl,_,lst rf,⟨⟨by omega,by omega⟩,isO hsn⟩,_,lout hsn rf,ae.of (λh1=>?_) (λh1=>?_)⟩ <;> simp only[gt_iff_lt,dTx,dFx]at h1
   · refine⟨B31,.inr ⟨hask,.inl ⟨λu hu=>?_,rfl⟩⟩⟩
     have:=(L.le hd hsn hu).2
     omega
   refine⟨rfl,_,lst rf,⟨⟨by omega,by omega⟩,isO hsn⟩,_,lout hsn rf,ae.of (λh2=>?_) (λh2=>?_)⟩
   · have h2:oAt out d.s=INF:=by simpa using h2
     exact⟨B31,.inr ⟨hask,.inl ⟨λu hu=>absurd hu (L.none hd h2 u),rfl⟩⟩⟩
   · have h2:oAt out d.s≠INF:=by simpa using h2
     exact⟨rfl,by omega,h2⟩
 rintro wk ⟨hwk,hle,hne⟩
 have hwk2:=hwk.symm
 subst hwk2
 have hmost:=L.most d.s hsn hne
 refine⟨rfl,_,lst rf,?_⟩
 refine⟨λmm wa wn wc t wl=>∃(u:List Nat) (s:Nat),t=(s:Int)/\s<d.n/\oAt out s≠INF/\mm=(oAt out s).toNat/\u.length+(oAt out s).toNat <=(oAt out d.s).toNat/\Gr d cs out d.s u s/\Ow cI aw wl NoB wa wn wc (wI u)/\bI w31.heap.size wa/\bW w31 wl,
   ⟨_,[],d.s,rfl,hsn,hne,rfl,by simp,.nil _,Ow.nil _ _ _ _,bI.none _,rf⟩,?_⟩
 intro mm wa wn wc t
 refine aC.of ?_ _
 rintro wl ⟨u,s,rfl,hsl,hsne,rfl,hul,G,W,fw,bl⟩
 have hslo:=(L.lo s hsl).1
 have hdlo:=(L.lo d.s hsn).1
 refine⟨⟨⟨by omega,by omega⟩,isO hsl⟩,_,lout hsl bl,ae.of (λh1=>?_) (λh1=>?_)⟩ <;> simp only[gt_iff_lt,dTx,dFx]at h1
 · have Al:=A31.below bl
   refine⟨rfl,d.k,Al.load1 aB rfl rfl,?_⟩
   refine⟨λm1 wa1 wn1 wc1 t1 xx wl1=>∃x:Nat,wa1=wa/\wn1=wn/\wc1=wc/\t1=((s:Nat):Int)/\xx=(x:Int)/\x <=d.K/\m1=d.K-x/\(∀y,y<x-> ¬ FR d cs out s y)/\Ow cI aw wl1 NoB wa wn wc (wI u)/\bW w31 wl1,
     ⟨_,0,rfl,rfl,rfl,rfl,rfl,Nat.zero_le _,rfl,λy hy=>absurd hy (Nat.not_lt_zero _),W,bl⟩,?_⟩
   intro m1 wa1 wn1 wc1 t1 xx
   refine aC.of ?_ _
   rintro wl1 ⟨x,rfl,rfl,rfl,rfl,rfl,hxk,rfl,hno,W1,bl1⟩
   have hdk:=hd.kk
   refine ae.of (λh2=>?_) (λh2=>?_) <;> simp only[dTx,dFx]at h2
   · have hxK:x<d.K:=by omega
     have hxc:x<cs.length:=by omega
     have hcx:=hf.at hxc
     have A1:=A31.below bl1
     have B1:=ab B31 bl1 B31.size
     have hidx:=ud hsl hxK
     have hK2:=hd.k2
     have hN2:=hd.n2
     have hKs:d.K <=512:=by omega
     have hmul:d.n*d.K <=65536*512:=Nat.mul_le_mul hN2 hKs
     have hsk:s*d.K <=d.n*d.K:=Nat.mul_le_mul_right _ (Nat.le_of_lt hsl)
     have ew:i64.wrap (i64.wrap (((s:Nat):Int)*d.k)+((x:Nat):Int))=((s*d.K+x:Nat):Int):=by
       have e1:((s:Nat):Int)*d.k=((s*d.K:Nat):Int):=by rw[<- hdk];simp
       have e2:i64.wrap (((s*d.K:Nat):Int))=((s*d.K:Nat):Int):=wrap_i64 (by omega) (by omega)
       rw[e1,e2,wrap_i64 (by omega) (by omega)];omega
     have hnx:=(h.below B1).nx
     have hnl:s*d.K+x<d.nx.length:=by rw[hd.lenN];exact hidx
     have hnn:=hnx.len
     have eto:d.nx[s*d.K+x]=((d.to s x:Nat):Int):=by
       have h0:=hd.nx0 _ (List.getElem_mem hnl)
       unfold DA.to
       rw[List.getD_eq_getElem?_getD,List.getElem?_eq_getElem hnl]
       show _=((d.nx[s*d.K+x].toNat:Nat):Int)
       omega
     have htl:=hd.to_lt hsl hxK
     have hto:=L.lo _ htl
     refine⟨rfl,a,n,c,A1.load1 aI rfl rfl,rfl,d.k,A1.load1 aB rfl rfl,?_⟩
     rw[ew]
     refine⟨⟨⟨by omega,by omega⟩,hnx.isSome hnl⟩,((d.to s x:Nat):Int),by rw[<- eto];exact hnx.num aB hnl,?_⟩
     refine⟨λbb wq=>bW wl1 wq/\(bb=true ↔ FR d cs out s x),?_,?_⟩
     · refine⟨⟨⟨by omega,by omega⟩,isO htl⟩,_,λq hq=>lout htl (ab bl1 hq bl1.size),ae.of (λh3=>?_) (λh3=>?_)⟩ <;> simp only[dTx,dFx]at h3
       · have hm3:=L.most _ htl (by have:=Aq;omega)
         refine⟨⟨⟨by omega,by omega⟩,isO htl⟩,_,λq hq=>lout htl (ab bl1 hq bl1.size),⟨⟨by omega,by omega⟩,hs.isSome hxc⟩,cAt cs x,λq hq=>?_,⟨⟨by omega,by omega⟩,isO hsl⟩,_,λq hq=>lout hsl (ab bl1 hq bl1.size),λq hq=>⟨hq,?_⟩⟩
         · rw[<- Lc hxc];exact(hs.below (ab B1 hq B1.size)).num aB hxc
         · rw[wrap_i64 (by omega) (by omega),beq_iff_eq]
           exact⟨λe=>⟨by have:=Aq;omega,e⟩,λe=>e.2⟩
       · exact λq hq=>⟨hq,⟨λe=>absurd e (by decide),λe=>absurd (show oAt out (d.to s x)<9223372036854775807 from e.1) h3⟩⟩
     · intro bb
       refine aC.of ?_ _
       rintro wj2 ⟨bj2,hbb⟩
       have Wj:=W1.below bj2
       have Bl2:=ab bl1 bj2 bl1.size
       refine ae.of (λh4=>?_) (λh4=>?_)
       · have hok:=hbb.1 h4
         intro k92 w92 hk92 hw92
         have hbd:((wI u).length+1)*8 <=140737488355328:=by
           unfold wI
           rw[List.length_map];omega
         obtain⟨w93,a93,n93,c93,hr,o93,f93,b93⟩:=FW (ty:=ar) (w0:=w31) (cm:=1) (x:=((x:Nat):Int)) fG aI ff (by decide) Wj fw Bl2 hk92 hw92 eE hbd
         have hcx1:=hok.2
         refine⟨w93,a93,n93,c93,hr,(oAt out (d.to s x)).toNat,by omega,u++[x],d.to s x,rfl,htl,by have:=hok.1;have:=Aq;omega,rfl,?_,G.snoc hxK h1 hok hno,?_,f93,b93⟩
         · rw[List.length_append,List.length_singleton];omega
         · unfold wI at o93 ⊢
           rw[List.map_append];exact o93
       · have hok: ¬ FR d cs out s x:=λhk=>by rw[hbb.2 hk]at h4;cases h4
         refine⟨d.K-(x+1),by omega,x+1,rfl,rfl,rfl,rfl,by rw[wrap_i64 (by omega) (by omega)];omega,hxK,rfl,λy hy=>?_,Wj,Bl2⟩
         by_cases e:y=x
         · subst e;exact hok
         · exact hno y (by omega)
   · exfalso
     obtain⟨x',hx',hok'⟩:=L.next hd hf hkk hsl hsne h1
     exact hno x' (by omega) hok'
 · have h0:oAt out s=0:=by omega
   obtain⟨g1,g2,g3⟩:=G.law L hd hf hkk hsn hne h0
   refine⟨ab B31 bl B31.size,.inr ⟨hask,.inr ⟨u,wa,wn,wc,rfl,W,λg hg=>?_,⟨g1,g3⟩,by omega⟩⟩⟩
   have:=fw g hg
   have:=B31.size
   omega
end Go.Pk
