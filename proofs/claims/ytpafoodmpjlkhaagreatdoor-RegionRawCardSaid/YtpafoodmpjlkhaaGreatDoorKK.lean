/- What the laws lean on: ShoD, HosG, PthL, V41, PthC, RegD, HosH, HosI, HosK, V42, V44, RegE, RegF, HosM, RegG, V43, RegH, RegI, RegJ, RegK, EqR, RegL, OpenH, OpenG; what is used. Its conditions: none. -/
import Derived.Test.YtpafoodmpjlkhaaGreatDoorKJ
import Derived.ChangeArms
import Derived.ChangeSame
import Derived.Deep.Slices
set_option linter.unusedVariables false
set_option linter.unusedSimpArgs false
set_option linter.unusedSectionVars false
set_option maxRecDepth 100000
open Go.IntKind (i64)
open Go.Proofs.Tryz
open List (length)
open Option (isSome)
namespace Go.Pk
open Go.RowKit (Below)
open Go.Proofs
def wI (w:List Nat):List Int:=w.map fun(x:Nat)=>(x:Int)
theorem pm.none {d:DA}{cs out:List Int}(h:pm d cs out)(hd:d.Ok)(h0:oAt out d.s=INF)(v:List Nat): ¬ d.Lang d.s v:=λhv=>(h.le hd hd.s_lt hv).1 h0
def EU (d:DA)(cs:List Int):Bool:=okD d&&(decide ((cs.length:Int)=d.k)&&cs.all inC)
def FQ (d:DA)(cs:List Int)(most:Int)(w:World)(v:Value)(w':World):Prop:=bW w w'/\
 (EU d cs=false/\v=.tuple #[.slice none 0 0,.bool false,vI 151]\/
  EU d cs=true/\((∀u,d.Lang d.s u->most<dz cs u)/\v=.tuple #[.slice none 0 0,.bool false,vI 0]\/
    ∃(u:List Nat) (a:Option Addr) (n c:Nat),v=.tuple #[.slice a n c,.bool true,vI 0]/\Ow fu ay w' NoB a n c (wI u)/\bp w.heap.size a/\pn cs (d.Lang d.s) u/\dz cs u <=most))
theorem pC {w:World}{a b:Option Addr}{n c m e:Nat}{a1:Option Addr}{l1 c1:Nat}{d:DA}{cs:List Int}(h:DaS w a n c b m e d)(hs:Sl fu w iv a1 l1 c1 cs)(most:Int)(hb0:most<INF)
   (hM:d.Ok->ql cs->cs.length=d.K->∃(C:Int) (M:Nat),Ib cs C/\((d.n-1:Nat):Int)*C <=(M:Int)/\d.n*(M+3) <=900000000000):
   Cf eS #[daV a n c b m e d,.slice a1 l1 c1,vI most] w (Ret (FQ d cs most w)):=by
 apply wZ
 intro k3 w3 hk3 hw3
 have hl1:=hs.len
 have b3:=(hw3▸af w _:bW w w3)
 have A3:ak w3 k3 ai [vI d.k,vI d.st,.slice a n c,.slice b m e]:=ak.new hk3 hw3
 have ask:EU d cs=true->d.Ok/\ql cs/\cs.length=d.K:=λhk=>by
   unfold EU at hk
   simp only[Bool.and_eq_true,dTx]at hk
   have ho:=fG.1 hk.1
   have:=ho.kk
   exact⟨ho,vD.1 hk.2.2,by omega⟩
 refine iA (λw'=>bW w3 w'/\EU d cs=true) ?_ ?_
 · refine⟨_,_,a,n,c,b,m,e,cg.load0 (cs:=[vI d.k,vI d.st,.slice a n c,.slice b m e]) A3 rfl,?_⟩
   refine av (ky (h.below b3)) ?_
   rintro _ w15 ⟨rfl,b15⟩
   have B15:=ab b3 b15 b3.size
   refine⟨_,rfl,ae.of (λh1=>⟨B15,.inl ⟨by unfold EU;rw[show okD d=false by simpa using h1];rfl,rfl⟩⟩) (λh1=>⟨rfl,d.k,(A3.below b15).load1 aI rfl rfl,?_⟩)⟩
   have h1:okD d=true:=by simpa using h1
   refine ae.of (λh2=>⟨B15,.inl ⟨?_,rfl⟩⟩) (λh2=>?_)
   · have h2:((l1:Nat):Int)≠d.k:=by simpa using h2
     unfold EU
     rw[decide_eq_false (by rw[<- hl1];exact h2),Bool.false_and,Bool.and_false]
   have h2:((l1:Nat):Int)=d.k:=by simpa using h2
   refine av (Bb (hs.below B15)) ?_
   rintro _ w26 ⟨rfl,rfl⟩
   refine⟨_,rfl,ae.of (λh3=>⟨B15,.inl ⟨by unfold EU;rw[show cs.all inC=false by simpa using h3,Bool.and_false,Bool.and_false],rfl⟩⟩) (λh3=>⟨b15,?_⟩)⟩
   unfold EU
   rw[h1,decide_eq_true (by rw[<- hl1];exact h2),show cs.all inC=true by simpa using h3];rfl
 rintro wj ⟨bj,hask⟩
 obtain⟨hd,hf,hkk⟩:=ask hask
 obtain⟨C,M,hC,hM1,hM2⟩:=hM hd hf hkk
 have Bj:=ab b3 bj b3.size
 refine⟨_,_,a,n,c,b,m,e,cg.load0 (cs:=[vI d.k,vI d.st,.slice a n c,.slice b m e]) (A3.below bj) rfl,?_⟩
 have hmn:m=d.n:=h.ac.len
 have hmn2:=hmn
 subst hmn2
 refine av (Bc (h.below Bj) hd (hs.below Bj) hf hC hkk hM1 hM2) ?_
 rintro _ w31 ⟨oa,on,oc,out,rfl,O,L,fo,b31⟩
 refine⟨oa,on,oc,rfl,?_⟩
 have hsn:=hd.s_lt
 have hss:((d.s:Nat):Int)=d.st:=by have:=hd.s0;show((d.st.toNat:Nat):Int)=d.st;omega
 have hon:=O.len
 have hol:=L.len
 have B31:=ab Bj b31 Bj.size
 have A31:ak w31 k3 ai [vI d.k,vI d.st,.slice a n c,.slice b d.n e]:=(A3.below bj).below b31
 have hso:d.s<out.length:=by omega
 have lst:∀{u:World},bW w31 u->(Instr.loadAt ay (.pointer (some ⟨k3,1,none⟩))).run prog u=.ok (vI ((d.s:Nat):Int)) u:=λhu=>by rw[hss];exact(A31.below hu).load1 aI rfl rfl
 have lout:∀{s:Nat} {u:World},s<d.n->bW w31 u->(Instr.loadAt ay (.pointer (am oa (s:Int) 1))).run prog u=.ok (vI (oAt out s)) u:=fun{s u} hs hu=>by
   have hsl:s<out.length:=by omega
   rw[<- Dq hsl];exact(O.below hu).all.num aI hsl
 have isO:∀{s:Nat},s<d.n->Option.isSome oa=true:=fun{s} hs=>O.all.isSome (i:=s) (by omega)
 have rf:=Below.refl w31.heap.size w31
 refine iA (λw'=>w'=w31/\oAt out d.s <=most/\oAt out d.s≠INF) ?_ ?_
 · refine⟨rfl,_,lst rf,⟨⟨by omega,by omega⟩,isO hsn⟩,_,lout hsn rf,ae.of (λh1=>?_) (λh1=>?_)⟩ <;> simp only[gt_iff_lt,dTx,dFx]at h1
   · refine⟨B31,.inr ⟨hask,.inl ⟨λu hu=>?_,rfl⟩⟩⟩
     have:=(L.le hd hsn hu).2
     omega
   refine⟨rfl,_,lst rf,⟨⟨by omega,by omega⟩,isO hsn⟩,_,lout hsn rf,ae.of (λh2=>?_) (λh2=>?_)⟩
   · have h2:oAt out d.s=INF:=by simpa using h2
     exact⟨B31,.inr ⟨hask,.inl ⟨λu hu=>absurd hu (L.none hd h2 u),rfl⟩⟩⟩
   · have h2:oAt out d.s≠INF:=by simpa using h2
     exact⟨rfl,by omega,h2⟩
 rintro wk ⟨hwk,hle,hne⟩
 have hwk2:=hwk.symm
 subst hwk2
 have hmost:=L.most d.s hsn hne
 refine⟨rfl,_,lst rf,?_⟩
 refine⟨λmm wa wn wc t wl=>∃(u:List Nat) (s:Nat),t=(s:Int)/\s<d.n/\oAt out s≠INF/\mm=(oAt out s).toNat/\u.length+(oAt out s).toNat <=(oAt out d.s).toNat/\Gr d cs out d.s u s/\Ow fu ay wl NoB wa wn wc (wI u)/\bp w31.heap.size wa/\bW w31 wl,
   ⟨_,[],d.s,rfl,hsn,hne,rfl,by simp,.nil _,Ow.nil _ _ _ _,bp.none _,rf⟩,?_⟩
 intro mm wa wn wc t
 refine aE.of ?_ _
 rintro wl ⟨u,s,rfl,hsl,hsne,rfl,hul,G,W,fw,bl⟩
 have hslo:=(L.lo s hsl).1
 have hdlo:=(L.lo d.s hsn).1
 refine⟨⟨⟨by omega,by omega⟩,isO hsl⟩,_,lout hsl bl,ae.of (λh1=>?_) (λh1=>?_)⟩ <;> simp only[gt_iff_lt,dTx,dFx]at h1
 · have Al:=A31.below bl
   refine⟨rfl,d.k,Al.load1 aI rfl rfl,?_⟩
   refine⟨λm1 wa1 wn1 wc1 t1 xx wl1=>∃x:Nat,wa1=wa/\wn1=wn/\wc1=wc/\t1=((s:Nat):Int)/\xx=(x:Int)/\x <=d.K/\m1=d.K-x/\(∀y,y<x-> ¬ AB d cs out s y)/\Ow fu ay wl1 NoB wa wn wc (wI u)/\bW w31 wl1,
     ⟨_,0,rfl,rfl,rfl,rfl,rfl,Nat.zero_le _,rfl,λy hy=>absurd hy (Nat.not_lt_zero _),W,bl⟩,?_⟩
   intro m1 wa1 wn1 wc1 t1 xx
   refine aE.of ?_ _
   rintro wl1 ⟨x,rfl,rfl,rfl,rfl,rfl,hxk,rfl,hno,W1,bl1⟩
   have hdk:=hd.kk
   refine ae.of (λh2=>?_) (λh2=>?_) <;> simp only[dTx,dFx]at h2
   · have hxK:x<d.K:=by omega
     have hxc:x<cs.length:=by omega
     have hcx:=hf.at hxc
     have A1:=A31.below bl1
     have B1:=ab B31 bl1 B31.size
     have hidx:=nM hsl hxK
     have hK2:=hd.k2
     have hN2:=hd.n2
     have hKs:d.K <=512:=by omega
     have hmul:d.n*d.K <=65536*512:=Nat.mul_le_mul hN2 hKs
     have hsk:s*d.K <=d.n*d.K:=Nat.mul_le_mul_right _ (Nat.le_of_lt hsl)
     have ew:i64.wrap (i64.wrap (((s:Nat):Int)*d.k)+((x:Nat):Int))=((s*d.K+x:Nat):Int):=by
       have e1:((s:Nat):Int)*d.k=((s*d.K:Nat):Int):=by rw[<- hdk];simp
       have e2:i64.wrap (((s*d.K:Nat):Int))=((s*d.K:Nat):Int):=wrap_i64 (by omega) (by omega)
       rw[e1,e2,wrap_i64 (by omega) (by omega)];omega
     have hnx:=(h.below B1).nx
     have hnl:s*d.K+x<d.nx.length:=by rw[hd.lenN];exact hidx
     have hnn:=hnx.len
     have eto:d.nx[s*d.K+x]=((d.to s x:Nat):Int):=by
       have h0:=hd.nx0 _ (List.getElem_mem hnl)
       unfold DA.to
       rw[List.getD_eq_getElem?_getD,List.getElem?_eq_getElem hnl]
       show _=((d.nx[s*d.K+x].toNat:Nat):Int)
       omega
     have htl:=hd.to_lt hsl hxK
     have hto:=L.lo _ htl
     refine⟨rfl,a,n,c,A1.load1 bm rfl rfl,rfl,d.k,A1.load1 aI rfl rfl,?_⟩
     rw[ew]
     refine⟨⟨⟨by omega,by omega⟩,hnx.isSome hnl⟩,((d.to s x:Nat):Int),by rw[<- eto];exact hnx.num aI hnl,?_⟩
     refine⟨λbb wq=>bW wl1 wq/\(bb=true ↔ AB d cs out s x),?_,?_⟩
     · refine⟨⟨⟨by omega,by omega⟩,isO htl⟩,_,λq hq=>lout htl (ab bl1 hq bl1.size),ae.of (λh3=>?_) (λh3=>?_)⟩ <;> simp only[dTx,dFx]at h3
       · have hm3:=L.most _ htl (by have:=tL;omega)
         refine⟨⟨⟨by omega,by omega⟩,isO htl⟩,_,λq hq=>lout htl (ab bl1 hq bl1.size),⟨⟨by omega,by omega⟩,hs.isSome hxc⟩,cAt cs x,λq hq=>?_,⟨⟨by omega,by omega⟩,isO hsl⟩,_,λq hq=>lout hsl (ab bl1 hq bl1.size),λq hq=>⟨hq,?_⟩⟩
         · rw[<- Gb hxc];exact(hs.below (ab B1 hq B1.size)).num aI hxc
         · rw[wrap_i64 (by omega) (by omega),beq_iff_eq]
           exact⟨λe=>⟨by have:=tL;omega,e⟩,λe=>e.2⟩
       · exact λq hq=>⟨hq,⟨λe=>absurd e (by decide),λe=>absurd (show oAt out (d.to s x)<9223372036854775807 from e.1) h3⟩⟩
     · intro bb
       refine aE.of ?_ _
       rintro wj2 ⟨bj2,hbb⟩
       have Wj:=W1.below bj2
       have Bl2:=ab bl1 bj2 bl1.size
       refine ae.of (λh4=>?_) (λh4=>?_)
       · have hok:=hbb.1 h4
         intro k92 w92 hk92 hw92
         have hbd:((wI u).length+1)*8 <=140737488355328:=by
           unfold wI
           rw[List.length_map];omega
         obtain⟨w93,a93,n93,c93,hr,o93,f93,b93⟩:=Du (ty:=aA) (w0:=w31) (cm:=1) (x:=((x:Nat):Int)) gv bm ij (by decide) Wj fw Bl2 hk92 hw92 eX hbd
         have hcx1:=hok.2
         refine⟨w93,a93,n93,c93,hr,(oAt out (d.to s x)).toNat,by omega,u++[x],d.to s x,rfl,htl,by have:=hok.1;have:=tL;omega,rfl,?_,G.snoc hxK h1 hok hno,?_,f93,b93⟩
         · rw[List.length_append,List.length_singleton];omega
         · unfold wI at o93 ⊢
           rw[List.map_append];exact o93
       · have hok: ¬ AB d cs out s x:=λhk=>by rw[hbb.2 hk]at h4;cases h4
         refine⟨d.K-(x+1),by omega,x+1,rfl,rfl,rfl,rfl,by rw[wrap_i64 (by omega) (by omega)];omega,hxK,rfl,λy hy=>?_,Wj,Bl2⟩
         by_cases e:y=x
         · subst e;exact hok
         · exact hno y (by omega)
   · exfalso
     obtain⟨x',hx',hok'⟩:=L.next hd hf hkk hsl hsne h1
     exact hno x' (by omega) hok'
 · have h0:oAt out s=0:=by omega
   obtain⟨g1,g2,g3⟩:=G.law L hd hf hkk hsn hne h0
   refine⟨ab B31 bl B31.size,.inr ⟨hask,.inr ⟨u,wa,wn,wc,rfl,W,λg hg=>?_,⟨g1,g3⟩,by omega⟩⟩⟩
   have:=fw g hg
   have:=B31.size
   omega
theorem F2 {ts:List Txt}(htl:ts.length <=60):(xQ ts).Ok:=LV (by omega) (by omega)
theorem Jd (ts:List Txt):(xQ ts).k=((ts.length:Int)+1):=by show(((ts.length+1:Nat)):Int)=_;omega
theorem F1 (ts:List Txt)(v:List Nat):(xQ ts).Lang (xQ ts).s v ↔ (∀x∈v,x<ts.length+1)/\kU (v.map (tx ts)):=by
 rw[<- J7]
 exact J5 v
theorem Fg {ts:List Txt}(hl:ts.length <=60)(hx:∀t∈ts,t.length <=70):Ib (gJ ts) 71:=by
 refine⟨by omega,by omega,λx hx'=>?_⟩
 rw[lv]at hx'
 rw[vM hx']
 rcases Nat.lt_or_ge x ts.length with h|h
 · rw[Ky h]
   have:=hx _ (List.getElem_mem h)
   omega
 · have:x=ts.length:=by omega
   subst this
   rw[DK]
   have:=(gA (qw hl)).2.1
   omega
theorem zZb {ts:List Txt}(htl:ts.length <=60){d e:DA}{ps:List Pr}(hk:d.k=(ts.length:Int)+1)(hI:gF d (xQ ts) (λx y=>x&&y) e ps)(v:List Nat):
   e.Lang e.s v ↔ d.Lang d.s v/\kU (v.map (tx ts)):=by
 have hK:d.K=ts.length+1:=by unfold DA.K;rw[hk];omega
 rw[hI.lang v]
 have h2:=F1 ts v
 unfold DA.Lang at h2 ⊢
 have hK2:(xQ ts).K=ts.length+1:=by unfold DA.K;rw[Jd];omega
 rw[hK2]at h2
 rw[hK,Bool.and_eq_true]
 constructor
 · rintro⟨h3,h4,h5⟩
   exact⟨⟨h3,h4⟩,(h2.1 ⟨h3,h5⟩).2⟩
 · rintro⟨⟨h3,h4⟩,h5⟩
   exact⟨h3,h4,(h2.2 ⟨h3,h5⟩).2⟩
def hB (ts:List Txt)(d:DA):Bool:=okD d&&decide (d.k=(ts.length:Int)+1)
def KJ (ts:List Txt)(d:DA)(w:World)(v:Value)(w':World):Prop:=bW w w'/\
 if hB ts d=true then ∃r:Option Hst,yS ts (d.Lang d.s) r/\(∀g,r=some g->g.ok)/\v=.tuple #[(r.getD gK).v,.bool r.isSome,vI 0]else v=.tuple #[gK.v,.bool false,vI 151]
set_option maxHeartbeats 1000000 in
theorem uh {w:World}(he:Env w){p:Option Addr}{ts:List Txt}(hA:fv w p ts)(htl:ts.length <=60)(hx:∀t∈ts,t.length <=70){a b:Option Addr}{n c m e:Nat}{d:DA}(h:DaS w a n c b m e d)(hf:d.Ok->d.k=(ts.length:Int)+1->Few d (xQ ts)):
   Cf jO #[.pointer p,daV a n c b m e d] w (Ret (KJ ts d w)):=by
 apply sU
 intro k3 w3 hk3 hw3 k4 w4 hk4 hw4
 have hx':∀t∈ts,t.length <=1000:=λt ht=>by have:=hx t ht;omega
 have b3:=(hw3▸af w _:bW w w3)
 have b4:=(hw4▸af w3 _:bW w3 w4)
 have A3:ak w3 k3 ai (daL a n c b m e d):=ak.new hk3 hw3
 have A4:ak w4 k4 ah gK.cells:=ak.new hk4 hw4
 have B4:=ab b3 b4 b3.size
 have s3:=b3.size
 have l4:=A4.lt
 refine av (ug (he.step B4) (hA.below B4) htl hx') ?_
 rintro _ w17 ⟨a1,n1,c1,b1,m1,e1,rfl,O,b17⟩
 have B17:=ab B4 b17 B4.size
 refine⟨_,_,a1,n1,c1,b1,m1,e1,_,rfl,?_⟩
 intro k7 w7 hk7 hw7
 have b7:=(hw7▸af w17 _:bW w17 w7)
 have A7:ak w7 k7 ai [vI 0,vI 0,.slice none 0 0,.slice none 0 0]:=ak.new hk7 hw7
 obtain⟨wx,q1,v1,g1⟩:=cg.store0 (P:=prog) (cs:=daL a1 n1 c1 b1 m1 e1 (xQ ts)) rfl (iF _ _ _ _ _ _ _) A7 rfl
 have bx:bW w17 wx:=Below.put b7 g1 (by omega)
 have Bx:=ab B17 bx B17.size
 have b4x:=ab b17 bx b17.size
 refine⟨wx,q1,ae.no rfl ⟨_,_,a,n,c,b,m,e,cg.load0 (cs:=daL a n c b m e d) ((A3.below b4).below b4x) rfl,_,_,a1,n1,c1,b1,m1,e1,cg.load0 (cs:=daL a1 n1 c1 b1 m1 e1 (xQ ts)) v1 rfl,?_⟩⟩
 have hallK:=Jd ts
 refine av (vn (h.below Bx) (O.das.below bx) (λh1 _ hk=>hf h1 (by rw[hk,hallK]))) ?_
 intro v w27 hP
 have eb:kw d (xQ ts)=hB ts d:=by
   have e1:(d.k==(xQ ts).k)=decide (d.k=(ts.length:Int)+1):=by rw[hallK,Bool.eq_iff_iff,beq_iff_eq,dTx]
   unfold kw hB
   rw[fG.2 (F2 htl),Bool.true_and,e1]
 have A4x:=A4.below b4x
 have back:∀{W:World} {g:Hst} (bb:Bool) (r:Int),g.ok->bW wx W->(∃wy,(Instr.storeAt ah (.pointer (some ⟨k4,0,none⟩)) g.v).run prog W=.ok () wy/\(aZ ah (.pointer (some ⟨k4,0,none⟩))).run prog wy=.ok g.v wy/\bW w wy):=by
   intro W g bb r og hb
   obtain⟨wy,r1,r2,r3⟩:=aL.store0 (P:=prog) (cs:=g.cells) (Hst.len og) (Hst.one _) (A4x.below hb) rfl
   exact⟨wy,r1,ak.res (aL.load0 r2 (Hst.len og)),Below.put (ab Bx hb Bx.size) r3 (by omega)⟩
 cases hhB:hB ts d with
 | false=>
   rw[<- eb]at hhB
   unfold ni at hP
   rw[if_neg (by rw[hhB];simp)]at hP
   obtain⟨rfl,b27⟩:=hP
   refine⟨_,_,none,0,0,none,0,0,_,rfl,?_⟩
   intro k9 w9 hk9 hw9
   have b9:=(hw9▸af w27 _:bW w27 w9)
   have A9:ak w9 k9 ai [vI 0,vI 0,.slice none 0 0,.slice none 0 0]:=ak.new hk9 hw9
   obtain⟨wy,q2,v2,g2⟩:=cg.store0 (P:=prog) (cs:=daL none 0 0 none 0 0 d0) rfl (iF _ _ _ _ _ _ _) A9 rfl
   have bxy:=ab b27 (Below.put b9 g2 (by omega)) b27.size
   obtain⟨wz,r1,r2,r3⟩:=back (g:=gK) false 151 rfl bxy
   refine⟨wy,q2,ae.yes rfl ⟨wz,r1,_,r2,r3,?_⟩⟩
   rw[if_neg (by rw[<- eb,hhB];simp)]
 | true=>
   have hhB':=hhB
   rw[<- eb]at hhB
   unfold ni at hP
   rw[if_pos hhB]at hP
   obtain⟨dd,ps,hI,a2,n2,c2,b2,m2,e2,rfl,OB,b27⟩:=hP
   unfold hB at hhB'
   rw[Bool.and_eq_true,dTx]at hhB'
   obtain⟨hok,hdk⟩:=hhB'
   have hdok:=fG.1 hok
   have hfew:=hf hdok hdk
   have hps:ps.length <=65536:=hfew ps hI.nd hI.reach
   have hddok:=hI.ok hdok hps
   refine⟨_,_,a2,n2,c2,b2,m2,e2,_,rfl,?_⟩
   intro k9 w9 hk9 hw9
   have b9:=(hw9▸af w27 _:bW w27 w9)
   have A9:ak w9 k9 ai [vI 0,vI 0,.slice none 0 0,.slice none 0 0]:=ak.new hk9 hw9
   obtain⟨wy,q2,v2,g2⟩:=cg.store0 (P:=prog) (cs:=daL a2 n2 c2 b2 m2 e2 dd) rfl (iF _ _ _ _ _ _ _) A9 rfl
   have b27y:=Below.put b9 g2 (by omega)
   have bxy:=ab b27 b27y b27.size
   have By:=ab Bx bxy Bx.size
   refine⟨wy,q2,ae.no rfl ?_⟩
   have hddk:dd.k=(ts.length:Int)+1:=by rw[hI.k,hdk]
   have hAy:=hA.below By
   refine av (cb p ts (by omega) wy hAy) ?_
   rintro _ w35 ⟨rfl,hw35⟩
   rw[hw35];clear hw35 w35
   refine⟨_,rfl,λM aa ll cc i W=>∃j:Nat,j <=ts.length+1/\i=(j:Int)/\M=ts.length+1-j/\Ow fu ay W NoB aa ll cc ((gJ ts).take j)/\bp wy.heap.size aa/\bW wy W,⟨_,0,by omega,rfl,rfl,by rw[List.take_zero];exact Ow.nil _ _ _ _,bp.none _,Below.refl _ _⟩,?_⟩
   intro M aa ll cc i
   refine aE.of ?_ _
   rintro wl ⟨j,hj,rfl,rfl,hO,hF,hBl⟩
   refine ae.of (λh3=>?_) (λh3=>?_) <;> simp only[dTx,dFx]at h3
   · have hjk:j<ts.length+1:=by omega
     refine av (kZ p ts (by omega) (j:Int) wl (hAy.below hBl)) ?_
     rintro _ w42 ⟨rfl,b42⟩
     have hst:ng ts (j:Int)=tx ts j:=rfl
     have hl1:(tx ts j).length <=1000:=HE htl hx' (by omega)
     refine⟨_,rfl,?_⟩
     rw[hst]
     intro k45 w45 hk45 hw45
     have B42:=ab hBl b42 hBl.size
     obtain⟨w46,a',n',c',r46,o46,f46,B46⟩:=Du (ty:=aA) gv bm ij (by decide) (hO.below b42) hF B42 (x:=(((tx ts j).length:Nat):Int)+1) hk45 hw45 (by rw[wrap_i64 (by omega) (by omega)];exact eX) (cm:=1) (by rw[List.length_take,lv];omega)
     refine⟨w46,a',n',c',r46,ts.length+1-(j+1),by omega,j+1,by omega,by rw[wrap_i64 (by omega) (by omega)];omega,rfl,?_,f46,B46⟩
     have e:(gJ ts).take (j+1)=(gJ ts).take j++[(((tx ts j).length:Nat):Int)+1]:=by
       have hlt:j<(gJ ts).length:=by rw[lv];exact hjk
       have hg:(gJ ts)[j]? =some ((((tx ts j).length:Nat):Int)+1):=by
         unfold gJ
         rw[List.getElem?_map,List.getElem?_range hjk];rfl
       rw[List.getElem?_eq_getElem hlt]at hg
       rw[List.take_succ_eq_append_getElem hlt,Option.some.inj hg]
     rw[e];exact o46
   · have hjk:j=ts.length+1:=by omega
     subst hjk
     rw[List.take_of_length_le (by rw[lv];omega)]at hO
     have DS:DaS wl a2 n2 c2 b2 m2 e2 dd:=(OB.das.below b27y).below hBl
     refine⟨_,_,a2,n2,c2,b2,m2,e2,cg.load0 (cs:=daL a2 n2 c2 b2 m2 e2 dd) (v2.below hBl) rfl,?_⟩
     have hfine:=Dh htl hx'
     have bxl:=ab bxy hBl bxy.size
     have Bl:=ab By hBl By.size
     refine av (pC DS hO.all 254 (by unfold INF;omega) (λh1 _ _=>⟨71,65536*71,Fg htl hx,?_,?_⟩)) ?_
     · have:=h1.n2
       have h2:((dd.n-1:Nat):Int) <=65536:=by show((dd.ac.length-1:Nat):Int) <=65536;omega
       omega
     · have:=h1.n2
       have h2:dd.n <=65536:=this
       have:dd.n*(65536*71+3) <=65536*(65536*71+3):=Nat.mul_le_mul_right _ h2
       omega
     have hask:EU dd (gJ ts)=true:=by
       unfold EU
       rw[fG.2 hddok,decide_eq_true (by rw[lv,hddk];omega),vD.2 hfine];rfl
     have hlang:=zZb htl hdk hI
     rintro _ w51 ⟨b51,⟨h1,_⟩|⟨_,⟨hno,rfl⟩|⟨u,a5,n5,c5,rfl,o5,f5,hu,hc⟩⟩⟩
     · rw[hask]at h1;cases h1
     · refine⟨none,0,0,false,0,rfl,?_⟩
       obtain⟨wz,r1,r2,r3⟩:=back (g:=gK) false 0 rfl (ab bxl b51 bxl.size)
       refine⟨λ_=>False,⟨λbb W=>bb=true/\W=w51,ae.yes rfl ⟨rfl,rfl⟩,λbb=>aE.of ?_ _⟩,aE.of (λ_ hc=>hc.elim) _⟩
       rintro wj ⟨rfl,rfl⟩
       refine ae.yes rfl ⟨wz,r1,_,r2,r3,?_⟩
       rw[if_pos (by rw[<- eb];exact hhB)]
       refine⟨none,λv hv hw=>?_,(λg hg=>by cases hg),rfl⟩
       have:=hno v ((hlang v).2 ⟨hv,hw⟩)
       omega
     · refine⟨a5,n5,c5,true,0,rfl,?_⟩
       have bx51:=ab bxl b51 bxl.size
       have B51:=ab Bl b51 Bl.size
       refine⟨λW=>W=w51,⟨λbb W=>bb=false/\W=w51,ae.no rfl ⟨rfl,rfl⟩,λbb=>aE.of (λwj hj=>ae.no hj.1 hj.2) _⟩,aE.of ?_ _⟩
       rintro wj hwj
       rw[hwj];clear hwj wj
       have hu1:=(hlang u).1 hu.1
       have hsym:∀x∈u,x<ts.length+1:=by
         have:=hu1.1.1
         have hK:d.K=ts.length+1:=by unfold DA.K;rw[hdk];omega
         rwa [hK]at this
       have hul:u.length <=254:=by
         have h2:∀{v:List Nat},(∀x∈v,x<ts.length+1)->(v.length:Int) <=dz (gJ ts) v:=by
           intro v
           induction v with
           | nil=>intro _;exact Int.le_refl _
           | cons x v ih=>
             intro hv
             have h3:=ih λy hy=>hv y (List.mem_cons_of_mem _ hy)
             have h4:=vM (ts:=ts) (hv x List.mem_cons_self)
             simp only[dz,List.length_cons]
             omega
         have:=h2 hsym
         omega
       have etx:txs ts (wI u)=u.map (tx ts):=by unfold txs wI;rw[List.map_map];rfl
       refine av (vQ (he.step B51) (hA.below B51) (by omega) o5.all (Ow.inside o5) ?_ ?_ ?_) ?_
       · intro x hx'
         obtain⟨y,hy,rfl⟩:=List.mem_map.1 hx'
         have:=hsym y hy
         omega
       · unfold wI;rw[List.length_map];omega
       · rw[etx]
         intro x hx2
         obtain⟨y,hy,rfl⟩:=List.mem_map.1 hx2
         exact HE htl hx' (by have:=hsym y hy;omega)
       rintro _ w66 ⟨rfl,b66⟩
       rw[etx]
       obtain⟨g,hg,og,_,_⟩:=E8 hsym hu1.2 hc
       rw[hg]
       refine⟨_,_,rfl,?_⟩
       intro k14 w14 hk14 hw14
       have b14:=(hw14▸af w66 _:bW w66 w14)
       have A14:ak w14 k14 ah gK.cells:=ak.new hk14 hw14
       obtain⟨w5x,r4,v4,g4⟩:=aL.store0 (P:=prog) (cs:=g.cells) (Hst.len og) (Hst.one _) A14 rfl
       have bx14:=ab (ab bx51 b66 bx51.size) (Below.put b14 g4 (by omega)) (ab bx51 b66 bx51.size).size
       obtain⟨wz,r1,r2,r3⟩:=back (g:=g) true 0 og bx14
       refine⟨w5x,r4,_,aL.load0 v4 (Hst.len og),wz,r1,_,r2,r3,?_⟩
       rw[if_pos (by rw[<- eb];exact hhB)]
       exact⟨some g,⟨u,hu.congr hlang,hc,hg⟩,(λg' hg'=>by cases hg';exact og),rfl⟩
def jl:List Int:=List.replicate 92 1
theorem zm:jl.length=92:=by simp[jl]
theorem Dr:ql jl:=λc hc=>by
 have:=(List.mem_replicate.1 hc).2
 omega
theorem iM:∀{v:List Nat},(∀x∈v,x<92)->dz jl v=(v.length:Int)
 | [],_=>rfl
 | x::v,h=>by
   have hx:=h x List.mem_cons_self
   have e:cAt jl x=1:=by
     unfold cAt jl
     rw[List.getD_eq_getElem?_getD,List.getElem?_replicate,if_pos hx];rfl
   simp only[dz]
   rw[e,iM λy hy=>h y (List.mem_cons_of_mem _ hy)]
   simp only[List.length_cons]
   omega
def H7 (v:List Nat):List UInt8:=v.map fun(x:Nat)=>chr (x:Int)
theorem HI {v:List Nat}(h:∀x∈v,x<92):jf (H7 v)=true/\pw (H7 v)=v:=by
 constructor
 · refine List.all_eq_true.2 λc hc=>?_
   obtain⟨x,hx,rfl⟩:=List.mem_map.1 hc
   have:=h x hx
   have e:=HA (i:=(x:Int)) (by unfold xY;simp;omega)
   rw[e];simp
 · unfold pw H7
   rw[List.map_map]
   conv=>rhs;rw[<- List.map_id v]
   refine List.map_congr_left λx hx=>?_
   have:=h x hx
   have e:=HA (i:=(x:Int)) (by unfold xY;simp;omega)
   show(sym (chr (x:Int))).toNat=x
   rw[e];simp
theorem oZ:jf [47]=true:=by decide
theorem Fb {p:List UInt8}(h:jf p=true)(h1:[47] <+:p)(h2:p.length <=2048):kV p=true:=by
 unfold kV
 obtain⟨r,e⟩:=h1
 have hd:p.head?=some 47:=by rw[<- e];rfl
 rw[decide_eq_true hd,decide_eq_true h2,Bool.true_and,Bool.true_and]
 refine List.all_eq_true.2 λc hc=>?_
 rw[EB]
 exact decide_eq_true (q6 h hc)
theorem zo {p:List UInt8}(h:kV p=true):pw [47] <+:pw p:=by
 obtain⟨g,h47,_⟩:=oX h
 refine(lA oZ g).2 ?_
 cases p with
 | nil=>simp at h47
 | cons c q=>simp at h47;exact⟨q,by rw[h47];rfl⟩
def jJ (L:List Nat->Prop)(r:Option (List UInt8)):Prop:=
 match r with
 | some p=>∃v,pn jl (λv=>L v/\pw [47] <+:v) v/\dz jl v <=2048/\p=H7 v
 | none=>∀v,L v->pw [47] <+:v->2048<dz jl v
theorem jJ.congr {L L':List Nat->Prop}{r:Option (List UInt8)}(h:jJ L r)(e:∀v,L v ↔ L' v):jJ L' r:=by
 cases r with
 | some p=>
   obtain⟨v,h1,h2,h3⟩:=h
   exact⟨v,h1.congr λu=>by rw[e u],h2,h3⟩
 | none=>exact λv hv=>h v ((e v).2 hv)
theorem jJ.one {L:List Nat->Prop}{r r':Option (List UInt8)}(h:jJ L r)(k:jJ L r'):r=r':=by
 cases r with
 | none=>
   cases r' with
   | none=>rfl
   | some p=>
     obtain⟨v,h1,h2,h3⟩:=k
     have:=h v h1.1.1 h1.1.2
     omega
 | some p=>
   obtain⟨v,h1,h2,h3⟩:=h
   cases r' with
   | none=>
     have:=k v h1.1.1 h1.1.2
     omega
   | some q=>
     obtain⟨u,k1,k2,k3⟩:=k
     rw[h3,k3,h1.one k1]
theorem Fw {L:List Nat->Prop}(hL:∀v,L v->∀x∈v,x<92){p:List UInt8}(h:jJ L (some p)):kV p=true/\L (pw p)/\∀q,kV q=true->L (pw q)->p.length <=q.length:=by
 obtain⟨v,h1,h2,rfl⟩:=h
 have hv:=hL v h1.1.1
 obtain⟨g,e⟩:=HI hv
 rw[iM hv]at h2
 have hlen:(H7 v).length=v.length:=by simp[H7]
 have hpre:[47] <+:H7 v:=(lA oZ g).1 (by rw[e];exact h1.1.2)
 refine⟨Fb g hpre (by omega),by rw[e];exact h1.1.1,λq hq hLq=>?_⟩
 have hq':=zo hq
 have h3:=h1.2 (pw q) ⟨hLq,hq'⟩
 rw[iM hv,iM (hL _ hLq)]at h3
 have:(pw q).length=q.length:=by simp[pw]
 omega
theorem Hf {L:List Nat->Prop}(hL:∀v,L v->∀x∈v,x<92)(h:jJ L none){q:List UInt8}(hq:kV q=true): ¬ L (pw q):=λhLq=>by
 have:=h _ hLq (zo hq)
 rw[iM (hL _ hLq)]at this
 have h2:=(oX hq).2.2
 have:(pw q).length=q.length:=by simp[pw]
 omega
theorem td (a b:Int)(c:Option Addr)(d e:Nat)(f:Option Addr)(g i:Nat){w K}(h:nA w (.cells #[vI a,vI b,.slice c d e,.slice f g i] ai) λj k=>∃l:FP [.one .ptr,.one (.int .i64)],((∃m n o p q r s t,Ld ai (vA j 0) (World.drew k) (.agg #[vI m,vI n,.slice o p q,.slice r s t])/\(Cf bZ #[] (World.drew k) λu v=>∃x y z A B C D E,u=.returned (.agg #[vI x,vI y,.slice z A B,.slice C D E])/\(Cf cF #[.agg #[vI m,vI n,.slice o p q,.slice r s t],.agg #[vI x,vI y,.slice z A B,.slice C D E]] v λF G=>∃H I J L M N O P Q,F=rT #[.agg #[vI H,vI I,.slice J L M,.slice N O P],vI Q]/\nA G (.cells #[vI 0,vI 0,.slice none 0 0,.slice none 0 0] ai) λR S=>∃T,Sv ai (vA R 0) (.agg #[vI H,vI I,.slice J L M,.slice N O P]) S T/\l (vA R 0) Q T)/\nA v (.cells #[vI 0,vI 0,.slice none 0 0,.slice none 0 0] ai) λF G=>Cf cF #[.agg #[vI m,vI n,.slice o p q,.slice r s t],.agg #[vI x,vI y,.slice z A B,.slice C D E]] G λH I=>∃J L M N O P Q R S,H=rT #[.agg #[vI J,vI L,.slice M N O,.slice P Q R],vI S]/\∃T,Sv ai (vA F 0) (.agg #[vI J,vI L,.slice M N O,.slice P Q R]) I T/\l (vA F 0) S T)/\∀u v,u=(World.drew k).heap.size->v=(World.drew k).alloc (.cells #[vI 0,vI 0,.slice none 0 0,.slice none 0 0] ai)->Cf bZ #[] v λx y=>∃z A B C D E F G,x=.returned (.agg #[vI z,vI A,.slice B C D,.slice E F G])/\Cf cF #[.agg #[vI m,vI n,.slice o p q,.slice r s t],.agg #[vI z,vI A,.slice B C D,.slice E F G]] y λH I=>∃J L M N O P Q R S,H=rT #[.agg #[vI J,vI L,.slice M N O,.slice P Q R],vI S]/\∃T,Sv ai (vA u 0) (.agg #[vI J,vI L,.slice M N O,.slice P Q R]) I T/\l (vA u 0) S T)/\(Cf bZ #[] (World.drew k) λm n=>∃o p q r s t u v,m=.returned (.agg #[vI o,vI p,.slice q r s,.slice t u v])/\(∃x y z A B C D E,Ld ai (vA j 0) n (.agg #[vI x,vI y,.slice z A B,.slice C D E])/\(Cf cF #[.agg #[vI x,vI y,.slice z A B,.slice C D E],.agg #[vI o,vI p,.slice q r s,.slice t u v]] n λF G=>∃H I J L M N O P Q,F=rT #[.agg #[vI H,vI I,.slice J L M,.slice N O P],vI Q]/\nA G (.cells #[vI 0,vI 0,.slice none 0 0,.slice none 0 0] ai) λR S=>∃T,Sv ai (vA R 0) (.agg #[vI H,vI I,.slice J L M,.slice N O P]) S T/\l (vA R 0) Q T)/\nA n (.cells #[vI 0,vI 0,.slice none 0 0,.slice none 0 0] ai) λF G=>Cf cF #[.agg #[vI x,vI y,.slice z A B,.slice C D E],.agg #[vI o,vI p,.slice q r s,.slice t u v]] G λH I=>∃J L M N O P Q R S,H=rT #[.agg #[vI J,vI L,.slice M N O,.slice P Q R],vI S]/\∃T,Sv ai (vA F 0) (.agg #[vI J,vI L,.slice M N O,.slice P Q R]) I T/\l (vA F 0) S T)/\nA n (.cells #[vI 0,vI 0,.slice none 0 0,.slice none 0 0] ai) λx y=>∃z A B C D E F G,Ld ai (vA j 0) y (.agg #[vI z,vI A,.slice B C D,.slice E F G])/\Cf cF #[.agg #[vI z,vI A,.slice B C D,.slice E F G],.agg #[vI o,vI p,.slice q r s,.slice t u v]] y λH I=>∃J L M N O P Q R S,H=rT #[.agg #[vI J,vI L,.slice M N O,.slice P Q R],vI S]/\∃T,Sv ai (vA x 0) (.agg #[vI J,vI L,.slice M N O,.slice P Q R]) I T/\l (vA x 0) S T)/\∀m n,m=(World.drew k).heap.size->n=(World.drew k).alloc (.cells #[vI 0,vI 0,.slice none 0 0,.slice none 0 0] ai)->(∃o p q r s t u v,Ld ai (vA j 0) n (.agg #[vI o,vI p,.slice q r s,.slice t u v])/\Cf bZ #[] n λx y=>∃z A B C D E F G,x=.returned (.agg #[vI z,vI A,.slice B C D,.slice E F G])/\Cf cF #[.agg #[vI o,vI p,.slice q r s,.slice t u v],.agg #[vI z,vI A,.slice B C D,.slice E F G]] y λH I=>∃J L M N O P Q R S,H=rT #[.agg #[vI J,vI L,.slice M N O,.slice P Q R],vI S]/\∃T,Sv ai (vA m 0) (.agg #[vI J,vI L,.slice M N O,.slice P Q R]) I T/\l (vA m 0) S T)/\Cf bZ #[] n λo p=>∃q r s t u v x y,o=.returned (.agg #[vI q,vI r,.slice s t u,.slice v x y])/\∃z A B C D E F G,Ld ai (vA j 0) p (.agg #[vI z,vI A,.slice B C D,.slice E F G])/\Cf cF #[.agg #[vI z,vI A,.slice B C D,.slice E F G],.agg #[vI q,vI r,.slice s t u,.slice v x y]] p λH I=>∃J L M N O P Q R S,H=rT #[.agg #[vI J,vI L,.slice M N O,.slice P Q R],vI S]/\∃T,Sv ai (vA m 0) (.agg #[vI J,vI L,.slice M N O,.slice P Q R]) I T/\l (vA m 0) S T)/\∀m n,aE 6 (∀o,l m n o->ae (n !=(0:Int)) (K (.tuple #[vS [],.bool false,vI n]) o) (∃p:FP [.one (.int .i64),.one .slice,.one .bool],((∃q r s t u v x y,Ld ai m (World.drew o) (.agg #[vI q,vI r,.slice s t u,.slice v x y])/\∀z A,z=(World.drew o).heap.size->A=(World.drew o).alloc (.cells #[vI 1] ay)->uL aY #[.slice (vA z 0) 1 1,vI 92] A λB C D E=>Cf eS #[.agg #[vI q,vI r,.slice s t u,.slice v x y],.slice B C D,vI 2048] E λF G=>∃H I J L M,F=rT #[.slice H I J,.bool L,vI M]/\p M H I J L G)/\∀q r,q=(World.drew o).heap.size->r=(World.drew o).alloc (.cells #[vI 1] ay)->(∃s t u v x y z A,Ld ai m r (.agg #[vI s,vI t,.slice u v x,.slice y z A])/\uL aY #[.slice (vA q 0) 1 1,vI 92] r λB C D E=>Cf eS #[.agg #[vI s,vI t,.slice u v x,.slice y z A],.slice B C D,vI 2048] E λF G=>∃H I J L M,F=rT #[.slice H I J,.bool L,vI M]/\p M H I J L G)/\uL aY #[.slice (vA q 0) 1 1,vI 92] r λs t u v=>∃x y z A B C D E,Ld ai m v (.agg #[vI x,vI y,.slice z A B,.slice C D E])/\Cf eS #[.agg #[vI x,vI y,.slice z A B,.slice C D E],.slice s t u,vI 2048] v λF G=>∃H I J L M,F=rT #[.slice H I J,.bool L,vI M]/\p M H I J L G)/\∀q r s t u,aE 8 (∀v,p q r s t u v->∃x:FP [],(ae (!u) (K (.tuple #[vS [],.bool false,vI q]) v) (ae (q !=(0:Int)) (K (.tuple #[vS [],.bool false,vI q]) v) (x v)))/\aE 10 (∀y,x y->Cf gY #[.slice r s t] y λz A=>∃B C,z=rT #[vS B,.bool C]/\K (.tuple #[vS B,.bool C,vI 0]) A))))):Cf jR #[.agg #[vI a,vI b,.slice c d e,.slice f g i]] w (Ret K):=ru func88 [(2,[(5,.one .ptr),(6,.one (.int .i64))]),(12,[(6,.one (.int .i64)),(7,.one .slice),(8,.one .bool)]),(14,[])] h
def pB (d:DA):Bool:=okD d&&decide (d.k=92)
theorem Md:ue (dy [47]) (pw [47]) 1:=nj oZ (by decide)
theorem F6:(dy [47]).k=92:=by unfold dy;rw[if_pos oZ];rfl
theorem KS:(dy [47]).K=92:=by unfold DA.K;rw[F6];rfl
theorem Hg {d e:DA}{ps:List Pr}(hk:d.k=92)(hI:gF d (dy [47]) (λx y=>x&&y) e ps)(v:List Nat):
   e.Lang e.s v ↔ d.Lang d.s v/\pw [47] <+:v:=by
 have hK:d.K=92:=by unfold DA.K;rw[hk];rfl
 rw[hI.lang v]
 have h2:=Md.lang v
 unfold DA.Lang at h2 ⊢
 rw[KS]at h2
 rw[hK,Bool.and_eq_true]
 constructor
 · rintro⟨h3,h4,h5⟩
   exact⟨⟨h3,h4⟩,(h2.1 ⟨h3,h5⟩).2⟩
 · rintro⟨⟨h3,h4⟩,h5⟩
   exact⟨h3,h4,(h2.2 ⟨h3,h5⟩).2⟩
structure Ju (d:DA)(nn:Int)(dd:DA)(B:Nat)(W:World)(a:Option Addr)(n c:Nat)(b:Option Addr)(m e:Nat):Prop where
 da:xN B W a n c b m e dd
 how:nn=151/\pB d=false\/nn=0/\pB d=true/\∃ps,gF d (dy [47]) (λx y=>x&&y) dd ps
theorem KW {W:World}{a b a1 b1:Option Addr}{n c m e n1 c1 m1 e1:Nat}{d:DA}(h:DaS W a n c b m e d)(h1:DaS W a1 n1 c1 b1 m1 e1 (dy [47]))(hf:d.Ok->d.k=92->Few d (dy [47])):
   Cf cF #[daV a n c b m e d,daV a1 n1 c1 b1 m1 e1 (dy [47])] W (Ret λv W'=>∃(nn:Int) (dd:DA) (a2:Option Addr) (n2 c2:Nat) (b2:Option Addr) (m2 e2:Nat),v=.tuple #[daV a2 n2 c2 b2 m2 e2 dd,vI nn]/\Ju d nn dd W.heap.size W' a2 n2 c2 b2 m2 e2/\bW W W'):=by
 refine av (vn h h1 (λq1 _ hk=>hf q1 (by rw[hk,F6]))) ?_
 intro v w27 hP
 have eb:kw d (dy [47])=pB d:=by
   have e1:(d.k==(dy [47]).k)=decide (d.k=92):=by rw[F6,Bool.eq_iff_iff,beq_iff_eq,dTx]
   unfold kw pB
   rw[fG.2 Md.ok,Bool.true_and,e1]
 unfold ni at hP
 rw[eb]at hP
 cases hp:pB d with
 | false=>
   rw[if_neg (by rw[hp];decide)]at hP
   obtain⟨rfl,b27⟩:=hP
   exact⟨_,rfl,151,d0,none,0,0,none,0,0,rfl,⟨⟨Ow.nil _ _ _ _,Ow.nil _ _ _ _,(λg hg=>by cases hg),bp.none _,bp.none _⟩,.inl ⟨rfl,hp⟩⟩,b27⟩
 | true=>
   rw[if_pos hp]at hP
   obtain⟨dd,ps,hI,a2,n2,c2,b2,m2,e2,rfl,OB,b27⟩:=hP
   exact⟨_,rfl,0,dd,a2,n2,c2,b2,m2,e2,rfl,⟨OB,.inr ⟨rfl,hp,ps,hI⟩⟩,b27⟩
def KK (d:DA)(w:World)(v:Value)(w':World):Prop:=bW w w'/\
 if pB d=true then ∃r:Option (List UInt8),jJ (d.Lang d.s) r/\v=.tuple #[vS (r.getD []),.bool r.isSome,vI 0]else v=.tuple #[vS [],.bool false,vI 151]
theorem Fv:Ib jl 1:=by
 refine⟨by omega,by omega,λx hx=>?_⟩
 rw[zm]at hx
 unfold cAt jl
 rw[List.getD_eq_getElem?_getD,List.getElem?_replicate,if_pos hx]
 exact Int.le_refl _
set_option maxHeartbeats 1000000 in
theorem ul {w:World}{a b:Option Addr}{n c m e:Nat}{d:DA}(h:DaS w a n c b m e d)(hf:d.Ok->d.k=92->Few d (dy [47])):
   Cf jR #[daV a n c b m e d] w (Ret (KK d w)):=by
 apply td
 intro k1 w1 hk1 hw1
 have b1:=(hw1▸af w _:bW w w1)
 have A1:ak w1 k1 ai (daL a n c b m e d):=ak.new hk1 hw1
 have D1:=h.below b1
 have ld:∀{W:World},bW w1 W->(Instr.loadAt ai (.pointer (some ⟨k1,0,none⟩))).run prog W=.ok (daV a n c b m e d) W:=λhb=>cg.load0 (cs:=daL a n c b m e d) (A1.below hb) rfl
 let J:Option Addr->Int->World->Prop:=λp n6 W=>bW w1 W/\∃(k:Nat) (dd:DA) (a2:Option Addr) (n2 c2:Nat) (b2:Option Addr) (m2 e2:Nat),p=some ⟨k,0,none⟩/\ak W k ai (daL a2 n2 c2 b2 m2 e2 dd)/\∃B,Ju d n6 dd B W a2 n2 c2 b2 m2 e2
 have fin:∀{W:World} {k:Nat} {nn:Int} {dd:DA} {a2 b2:Option Addr} {n2 c2 m2 e2:Nat},bW w1 W->w1.heap.size <=k->ak W k ai [vI 0,vI 0,.slice none 0 0,.slice none 0 0]->(∀W',W.grownBy W' (some k)->∃B,Ju d nn dd B W' a2 n2 c2 b2 m2 e2)->
     ∃wx,(Instr.storeAt ai (.pointer (some ⟨k,0,none⟩)) (daV a2 n2 c2 b2 m2 e2 dd)).run prog W=.ok () wx/\J (some ⟨k,0,none⟩) nn wx:=by
   intro W k nn dd a2 b2 n2 c2 m2 e2 hb hk hA hR
   obtain⟨wx,q1,v1,g1⟩:=cg.store0 (P:=prog) (cs:=daL a2 n2 c2 b2 m2 e2 dd) rfl (iF _ _ _ _ _ _ _) hA rfl
   exact⟨wx,q1,Below.put hb g1 hk,k,dd,a2,n2,c2,b2,m2,e2,rfl,v1,hR wx g1⟩
 have c2:∀{W:World} {k:Nat} {a1 b1:Option Addr} {n1 c1 m1 e1:Nat},bW w1 W->w1.heap.size <=k->ak W k ai [vI 0,vI 0,.slice none 0 0,.slice none 0 0]->DaS W a1 n1 c1 b1 m1 e1 (dy [47])->
     Cf cF #[daV a n c b m e d,daV a1 n1 c1 b1 m1 e1 (dy [47])] W λe13 w13=>∃(n00 n01:Int) (a2:Option Addr) (l2 q2:Nat) (a3:Option Addr) (l3 q3:Nat) (nn:Int),e13=.returned (.tuple #[.agg #[vI n00,vI n01,.slice a2 l2 q2,.slice a3 l3 q3],vI nn])/\
       ∃(wx:World),(Instr.storeAt ai (.pointer (some ⟨k,0,none⟩)) (.agg #[vI n00,vI n01,.slice a2 l2 q2,.slice a3 l3 q3])).run prog w13=.ok () wx/\J (some ⟨k,0,none⟩) nn wx:=by
   intro W k a1 b1 n1 c1 m1 e1 hb hk hA hD
   refine av (KW (D1.below hb) hD hf) ?_
   rintro _ w13 ⟨nn,dd,a2,n2,c2,b2,m2,e2,rfl,hR,hb13⟩
   have hlt:=hA.lt
   exact⟨_,_,a2,n2,c2,b2,m2,e2,nn,rfl,fin (ab hb hb13 hb.size) hk (hA.below hb13) λW' g=>⟨_,hR.da.put g hlt,hR.how⟩⟩
 have Z:∀{W W':World} {k:Nat},k=W.heap.size->W'=W.alloc (.cells #[vI 0,vI 0,.slice none 0 0,.slice none 0 0] ai)->ak W' k ai [vI 0,vI 0,.slice none 0 0,.slice none 0 0]/\bW W W':=λhk hw=>⟨ak.new hk hw,hw▸af _ _⟩
 have c1:∀{W:World} {a1 b1:Option Addr} {n1 c1 m1 e1:Nat},bW w1 W->DaS W a1 n1 c1 b1 m1 e1 (dy [47])->
     Cf cF #[daV a n c b m e d,daV a1 n1 c1 b1 m1 e1 (dy [47])] W λe13 w13=>∃(n00 n01:Int) (a2:Option Addr) (l2 q2:Nat) (a3:Option Addr) (l3 q3:Nat) (nn:Int),e13=.returned (.tuple #[.agg #[vI n00,vI n01,.slice a2 l2 q2,.slice a3 l3 q3],vI nn])/\
       ∀(k5:Nat) (w5:World),k5=w13.heap.size->w5=w13.alloc (.cells #[vI 0,vI 0,.slice none 0 0,.slice none 0 0] ai)->
       ∃(wx:World),(Instr.storeAt ai (.pointer (some ⟨k5,0,none⟩)) (.agg #[vI n00,vI n01,.slice a2 l2 q2,.slice a3 l3 q3])).run prog w5=.ok () wx/\J (some ⟨k5,0,none⟩) nn wx:=by
   intro W a1 b1 n1 c1 m1 e1 hb hD
   refine av (KW (D1.below hb) hD hf) ?_
   rintro _ w13 ⟨nn,dd,a2,n2,c2,b2,m2,e2,rfl,hR,hb13⟩
   refine⟨_,_,a2,n2,c2,b2,m2,e2,nn,rfl,?_⟩
   intro k5 w5 hk5 hw5
   obtain⟨A5,b5⟩:=Z hk5 hw5
   have B13:=ab hb hb13 hb.size
   have s13:=B13.size
   exact fin (ab B13 b5 B13.size) (by omega) A5 λW' g=>⟨_,hR.da.below (Below.put b5 g (by omega)),hR.how⟩
 have B0:bW w1 w1.drew:=dj w1
 have paths:∀(W:World),Cf bZ #[] W (Ret (KL W (dy [47]))):=DQ
 refine⟨J,⟨⟨_,_,a,n,c,b,m,e,ld B0,⟨?_,?_⟩⟩,⟨?_,?_⟩⟩,?_⟩
 · refine av (paths _) ?_
   rintro _ w12 ⟨a1,n1,c1',b1',m1,e1,rfl,O,hb⟩
   have B:=ab B0 hb B0.size
   have s:=B.size
   refine⟨_,_,a1,n1,c1',b1',m1,e1,rfl,c1 B O.das,?_⟩
   intro k5 w5 hk5 hw5
   obtain⟨A5,b5⟩:=Z hk5 hw5
   exact c2 (ab B b5 B.size) (by omega) A5 (O.das.below b5)
 · intro k5 w5 hk5 hw5
   obtain⟨A5,b5⟩:=Z hk5 hw5
   have B:=ab B0 b5 B0.size
   have s:=B0.size
   refine av (paths _) ?_
   rintro _ w12 ⟨a1,n1,c1',b1',m1,e1,rfl,O,hb⟩
   exact⟨_,_,a1,n1,c1',b1',m1,e1,rfl,c2 (ab B hb B.size) (by omega) (A5.below hb) O.das⟩
 · refine av (paths _) ?_
   rintro _ w12 ⟨a1,n1,c1',b1',m1,e1,rfl,O,hb⟩
   have B:=ab B0 hb B0.size
   have s:=B.size
   refine⟨_,_,a1,n1,c1',b1',m1,e1,rfl,⟨_,_,a,n,c,b,m,e,ld B,c1 B O.das,?_⟩,?_⟩
   · intro k5 w5 hk5 hw5
     obtain⟨A5,b5⟩:=Z hk5 hw5
     exact c2 (ab B b5 B.size) (by omega) A5 (O.das.below b5)
   · intro k5 w5 hk5 hw5
     obtain⟨A5,b5⟩:=Z hk5 hw5
     have B5:=ab B b5 B.size
     exact⟨_,_,a,n,c,b,m,e,ld B5,c2 B5 (by omega) A5 (O.das.below b5)⟩
 · intro k5 w5 hk5 hw5
   obtain⟨A5,b5⟩:=Z hk5 hw5
   have B:=ab B0 b5 B0.size
   have s:=B0.size
   refine⟨⟨_,_,a,n,c,b,m,e,ld B,?_⟩,?_⟩
   · refine av (paths _) ?_
     rintro _ w12 ⟨a1,n1,c1',b1',m1,e1,rfl,O,hb⟩
     exact⟨_,_,a1,n1,c1',b1',m1,e1,rfl,c2 (ab B hb B.size) (by omega) (A5.below hb) O.das⟩
   · refine av (paths _) ?_
     rintro _ w12 ⟨a1,n1,c1',b1',m1,e1,rfl,O,hb⟩
     have B12:=ab B hb B.size
     exact⟨_,_,a1,n1,c1',b1',m1,e1,rfl,_,_,a,n,c,b,m,e,ld B12,c2 B12 (by omega) (A5.below hb) O.das⟩
 intro p5 n6
 refine aE.of ?_ _
 rintro wj ⟨Bj,k,dd,a2,n2,c2',b2,m2,e2,rfl,Aj,BB,hR⟩
 have Bw:=ab b1 Bj b1.size
 rcases hR.how with⟨rfl,hp⟩|⟨rfl,hp,ps,hI⟩
 · exact ae.yes rfl ⟨Bw,by rw[if_neg (by rw[hp];decide)]⟩
 refine ae.no rfl ?_
 have hp':=hp
 unfold pB at hp'
 rw[Bool.and_eq_true,dTx]at hp'
 obtain⟨hok,hdk⟩:=hp'
 have hdok:=fG.1 hok
 have hps:ps.length <=65536:=hf hdok hdk ps hI.nd hI.reach
 have hddok:=hI.ok hdok hps
 have hddk:dd.k=92:=by rw[hI.k,hdk]
 have hlang:=Hg hdk hI
 have DD:=hR.da.das
 have hask:EU dd jl=true:=by
   unfold EU
   rw[fG.2 hddok,decide_eq_true (by rw[zm,hddk];rfl),vD.2 Dr];rfl
 let J1:Int->Option Addr->Nat->Nat->Bool->World->Prop:=λn6 a7 l7 c7 b8 W=>bW wj W/\n6=0/\(b8=false/\(∀u,dd.Lang dd.s u->2048<dz jl u)\/b8=true/\∃u,Ow fu ay W NoB a7 l7 c7 (wI u)/\pn jl (dd.Lang dd.s) u/\dz jl u <=2048)
 have lst:∀{W:World} {a1:Option Addr} {l1 q1:Nat},bW wj W->Ow fu ay W NoB a1 l1 q1 jl->
     Cf eS #[daV a2 n2 c2' b2 m2 e2 dd,.slice a1 l1 q1,vI 2048] W λe23 w23=>∃(a0:Option Addr) (l0 q0:Nat) (bb:Bool) (nn:Int),e23=.returned (.tuple #[.slice a0 l0 q0,.bool bb,vI nn])/\J1 nn a0 l0 q0 bb w23:=by
   intro W a1 l1 q1 hb hO
   refine av (pC (DD.below hb) hO.all 2048 (by unfold INF;omega) (λh1 _ _=>⟨1,65536,Fv,?_,?_⟩)) ?_
   · have:=h1.n2
     have h2:((dd.n-1:Nat):Int) <=65536:=by show((dd.ac.length-1:Nat):Int) <=65536;omega
     omega
   · have h2:dd.n <=65536:=h1.n2
     have:dd.n*(65536+3) <=65536*(65536+3):=Nat.mul_le_mul_right _ h2
     omega
   rintro _ w51 ⟨b51,⟨h1,_⟩|⟨_,⟨hno,rfl⟩|⟨u,a5,n5,c5,rfl,o5,f5,hu,hc⟩⟩⟩
   · rw[hask]at h1;cases h1
   · exact⟨none,0,0,false,0,rfl,ab hb b51 hb.size,rfl,.inl ⟨rfl,hno⟩⟩
   · exact⟨a5,n5,c5,true,0,rfl,ab hb b51 hb.size,rfl,.inr ⟨rfl,u,o5,hu,hc⟩⟩
 have ld2:∀{W:World},bW wj W->(Instr.loadAt ai (.pointer (some ⟨k,0,none⟩))).run prog W=.ok (daV a2 n2 c2' b2 m2 e2 dd) W:=λhb=>cg.load0 (cs:=daL a2 n2 c2' b2 m2 e2 dd) (Aj.below hb) rfl
 have E0:bW wj wj.drew:=dj wj
 have one:∀{W W':World} {k:Nat},k=W.heap.size->W'=W.alloc (.cells #[vI 1] ay)->Sl fu W' iv (some ⟨k,0,none⟩) 1 1 [1]/\bW W W':=λhk hw=>⟨(Ow.newF (T:=fu) (A:=NoB) (l:=[vI 1]) (xs:=[1]) gv hk hw (gy.one eX) (by decide)).all,hw▸af _ _⟩
 refine⟨J1,⟨⟨_,_,a2,n2,c2',b2,m2,e2,ld2 E0,?_⟩,?_⟩,?_⟩
 · intro k21 w21 hk21 hw21
   obtain⟨S,b21⟩:=one hk21 hw21
   have B:=ab E0 b21 E0.size
   refine av (lB S (k:=92) (by omega) (by omega)) ?_
   rintro _ w22 ⟨a',rfl,o22,f22,b22⟩
   exact⟨a',92,92,rfl,lst (ab B b22 B.size) o22⟩
 · intro k21 w21 hk21 hw21
   obtain⟨S,b21⟩:=one hk21 hw21
   have B:=ab E0 b21 E0.size
   refine⟨⟨_,_,a2,n2,c2',b2,m2,e2,ld2 B,?_⟩,?_⟩
   · refine av (lB S (k:=92) (by omega) (by omega)) ?_
     rintro _ w22 ⟨a',rfl,o22,f22,b22⟩
     exact⟨a',92,92,rfl,lst (ab B b22 B.size) o22⟩
   · refine av (lB S (k:=92) (by omega) (by omega)) ?_
     rintro _ w22 ⟨a',rfl,o22,f22,b22⟩
     have B22:=ab B b22 B.size
     exact⟨a',92,92,rfl,_,_,a2,n2,c2',b2,m2,e2,ld2 B22,lst B22 o22⟩
 intro n6 a7 l7 c7 b8
 refine aE.of ?_ _
 rintro W ⟨hb,rfl,⟨rfl,hno⟩|⟨rfl,u,o5,hu,hc⟩⟩
 · refine⟨λ_=>False,ae.yes rfl ⟨ab Bw hb Bw.size,?_⟩,aE.of (λ_ hc=>hc.elim) _⟩
   rw[if_pos hp]
   exact⟨none,λv hv hs=>hno v ((hlang v).2 ⟨hv,hs⟩),rfl⟩
 · have BW:=ab Bw hb Bw.size
   refine⟨λW'=>W'=W,ae.no rfl (ae.no rfl rfl),aE.of ?_ _⟩
   rintro wq hwq
   rw[hwq];clear hwq wq
   have hu1:=(hlang u).1 hu.1
   have hK:d.K=92:=by unfold DA.K;rw[hdk];rfl
   have hsym:∀x∈u,x<92:=by
     have:=hu1.1.1
     rwa [hK]at this
   have hul:u.length <=2048:=by
     have:=iM hsym
     omega
   refine av (qJ (l:=wI u) (by unfold wI;rw[List.length_map];omega) o5.all) ?_
   rintro _ w36 ⟨rfl,b36⟩
   have hok2:okL (wI u)=true:=by
     unfold okL wI
     rw[List.all_map,List.all_eq_true]
     intro x hx
     have:=hsym x hx
     show(decide (0 <=((x:Nat):Int))&&decide (((x:Nat):Int)<92))=true
     rw[decide_eq_true (by omega),decide_eq_true (by omega)];rfl
   have et:CD (wI u)=H7 u:=by unfold CD;rw[if_pos hok2];unfold H7 wI;rw[List.map_map];rfl
   refine⟨_,_,rfl,ab BW b36 BW.size,?_⟩
   rw[if_pos hp,hok2,et]
   exact⟨some (H7 u),⟨u,hu.congr hlang,hc,rfl⟩,rfl⟩
def Dk:List Bool->Int->Int
 | [],_=> -1
 | true::_,i=>i
 | false::l,i=>Dk l (i+1)
theorem zd {w:World}{A:Bl}{a:Option Addr}{n c:Nat}{xs:List Bool}(hs:Sl lg w A a n c xs):Cf bC #[.slice a n c,.bool true] w (Ret λv w'=>v=vI (Dk xs 0)/\w'=w):=by
 have hn:=hs.len
 subst hn
 have hle:=hs.le
 apply fS
 refine⟨λm i w'=>∃j:Nat,j <=xs.length/\i=(j:Int)/\m=xs.length-j/\Dk xs 0=Dk (xs.drop j) (j:Int)/\w'=w,⟨_,0,by omega,rfl,rfl,rfl,rfl⟩,?_⟩
 intro m i
 refine aE.of ?_ _
 rintro w' ⟨j,hj,rfl,rfl,he,hw'⟩
 rw[hw'];clear hw' w'
 refine ae.of (λh=>?_) (λh=>?_) <;> simp only[dTx,dFx]at h
 · have hlt:j<xs.length:=by omega
   obtain⟨v,hv,hrep⟩:=hs.load1 (P:=prog) (i:=(j:Int)) di rfl rfl (by simpa using hlt)
   have hb:=uF hrep
   subst hb
   simp only[Int.toNat_natCast]at hv
   rw[List.drop_eq_getElem_cons hlt]at he
   refine⟨⟨⟨by omega,h⟩,hs.isSome hlt⟩,_,hv,?_⟩
   cases hx:xs[j]with
   | true=>
     rw[hx]at he
     exact ae.yes rfl ⟨by rw[he];rfl,rfl⟩
   | false=>
     rw[hx]at he
     exact ae.no rfl ⟨xs.length-(j+1),by omega,j+1,by omega,by rw[wrap_i64 (by omega) (by omega)];omega,rfl,by rw[he];rfl,rfl⟩
 · have:j=xs.length:=by omega
   subst this
   rw[List.drop_length]at he
   exact⟨by rw[he];rfl,rfl⟩
theorem Hj {w:World}{A:Bl}(xs:List Bool):gy lg w A (xs.map .bool) xs:=by
 induction xs with
 | nil=>exact gy.nil _ _ _
 | cons x xs ih=>exact(gy.one (ry (b:=x))).append ih
theorem EG {w:World}{k off:Nat}{T:TypeId}{cs:List Value}{xs:List Bool}(h:ak w k T cs)(hc:∀j,j<xs.length->cs[off+j]? =(xs.map Value.bool)[j]?)(hl:xs.length <=maxLen):Sl lg w iv (some ⟨k,off,none⟩) xs.length xs.length xs:=
 ⟨rfl,Nat.le_refl _,hl,.inr ⟨k,off,rfl,h.lt,trivial,xs.map .bool,Hj xs,λj hj=>by rw[h.cell];exact hc j (by simpa using hj)⟩⟩
def Rgn.sch (r:Rgn):List Bool:=[r.s0,r.s1]
def Rgn.crs (r:Rgn):List Bool:=[r.c0,r.c1,r.c2]
def LA:Req:=⟨false,gK,[],0⟩
def FM (r:Rgn)(rh:Option Hst)(rp:Option (List UInt8)):Option Req:=
 match rh,rp with
 | some g,some t=>if Dk r.sch 0<0\/Dk r.crs 0<0 then none else some ⟨Dk r.sch 0==1,g,t,Dk r.crs 0⟩
 | _,_=>none
def JB (ts:List Txt)(r:Rgn)(w:World)(v:Value)(w':World):Prop:=bW w w'/\∃(rh:Option Hst) (rp:Option (List UInt8)),yS ts (r.h.Lang r.h.s) rh/\(∀g,rh=some g->g.ok)/\jJ (r.p.Lang r.p.s) rp/\
 v=.tuple #[((FM r rh rp).getD LA).v,.bool (FM r rh rp).isSome,vI 0]
theorem Il {g:Hst}(o:g.ok)(b:Bool)(p:List UInt8)(n:Int)(w:World):(Instr.build ax #[(0,.bool b),(1,g.v),(2,vS p),(3,vI n)]).run prog w=.ok (Req.v ⟨b,g,p,n⟩) w:=by
 obtain⟨k,n',a⟩:=g
 obtain⟨x0,x1,x2,x3,x4,x5,x6,x7,x8,x9,x10,x11,x12,x13,x14,x15,rfl⟩:=zf a o
 kernel_rfl
set_option maxHeartbeats 1000000 in
theorem sM {w:World}(he:Env w){p:Option Addr}{ts:List Txt}(hA:fv w p ts)(htl:ts.length <=60)(hx:∀t∈ts,t.length <=70){r:Rgn}{x y:Rgp}(hr:RgS w r x y)(hh:hB ts r.h=true)(hp:pB r.p=true)(fh:Few r.h (xQ ts))(fp:Few r.p (dy [47])):
   Cf je #[.pointer p,r.v x y] w (Ret (JB ts r w)):=by
 apply rF
 intro k3 w3 hk3 hw3 k4 w4 hk4 hw4
 have b3:=(hw3▸af w _:bW w w3)
 have b4:=(hw4▸af w3 _:bW w3 w4)
 have A3:ak w3 k3 ar (r.cells x y):=ak.new hk3 hw3
 have A4:ak w4 k4 ax LA.cells:=ak.new hk4 hw4
 have B4:=ab b3 b4 b3.size
 have s3:=b3.size
 have A34:=A3.below b4
 refine⟨rfl,_,_,x.a,x.n,x.c,x.b,x.m,x.e,AM A34,?_⟩
 refine av (uh (he.step B4) (hA.below B4) htl hx (hr.h.below B4) (λ_ _=>fh)) ?_
 rintro v w20 ⟨b20,hv⟩
 rw[if_pos hh]at hv
 obtain⟨rh,hL,hok,rfl⟩:=hv
 have gok:(rh.getD gK).ok:=by cases rh with
   | none=>exact(rfl:gK.ok)
   | some g=>exact hok g rfl
 have B20:=ab B4 b20 B4.size
 refine⟨_,_,_,rfl,?_⟩
 intro k7 w7 hk7 hw7
 have b7:=(hw7▸af w20 _:bW w20 w7)
 have A7:ak w7 k7 ah gK.cells:=ak.new hk7 hw7
 obtain⟨wx,q1,v1,g1⟩:=aL.store0 (P:=prog) (cs:=(rh.getD gK).cells) (Hst.len gok) (Hst.one _) A7 rfl
 have bx:bW w20 wx:=Below.put b7 g1 (by omega)
 have Bx:=ab B20 bx B20.size
 have b4x:=ab b20 bx b20.size
 have A3x:=A34.below b4x
 refine⟨wx,q1,rfl,_,_,y.a,y.n,y.c,y.b,y.m,y.e,AN A3x,?_⟩
 refine av (ul (hr.p.below Bx) (λ_ _=>fp)) ?_
 rintro v w27 ⟨b27,hv⟩
 rw[if_pos hp]at hv
 obtain⟨rp,hP,rfl⟩:=hv
 have B27:=ab Bx b27 Bx.size
 refine⟨_,_,_,rfl,?_⟩
 intro k33 w33 hk33 hw33
 have b33:=(hw33▸af w27 _:bW w27 w33)
 have B33:=ab B27 b33 B27.size
 have S:Sl fu w33 iv (some ⟨k33,0,none⟩) 2 2 [0,0]:=(Ow.newF (T:=fu) (A:=NoB) (t:=fz) (l:=[vI 0,vI 0]) (xs:=[0,0]) gv hk33 hw33 ((gy.one (eX (n:=0))).append (gy.one (eX (n:=0)))) (show 2 <=maxLen by decide)).all
 refine av (Ee S) ?_
 rintro _ w34 ⟨rfl,hw34⟩
 rw[hw34];clear hw34 w34
 have b433:=ab (ab b4x b27 b4x.size) b33 (ab b4x b27 b4x.size).size
 have A33:=A34.below b433
 have A4z:=A4.below b433
 have A7z:=v1.below (ab b27 b33 b27.size)
 refine⟨_,rfl,ae.no (by decide) ⟨rfl,trivial,?_⟩⟩
 have S2:Sl lg w33 iv (some ⟨k3,8,none⟩) 2 2 r.sch:=EG (xs:=r.sch) A33 (λj hj=>by
   match j,hj with
   | 0,_=>rfl
   | 1,_=>rfl
   | j+2,hj=>exact absurd hj (by show ¬ (j+2<2);omega)) (show 2 <=maxLen by decide)
 have S3:Sl lg w33 iv (some ⟨k3,10,none⟩) 3 3 r.crs:=EG (xs:=r.crs) A33 (λj hj=>by
   match j,hj with
   | 0,_=>rfl
   | 1,_=>rfl
   | 2,_=>rfl
   | j+3,hj=>exact absurd hj (by show ¬ (j+3<3);omega)) (show 3 <=maxLen by decide)
 refine av (zd S2) ?_
 rintro _ w41 ⟨rfl,hw41⟩
 rw[hw41];clear hw41 w41
 refine⟨_,rfl,rfl,trivial,?_⟩
 refine av (zd S3) ?_
 rintro _ w44 ⟨rfl,hw44⟩
 rw[hw44];clear hw44 w44
 refine⟨_,rfl,λW=>W=w33/\∃g t,rh=some g/\rp=some t/\ ¬ (Dk r.sch 0<0\/Dk r.crs 0<0),⟨λbb W=>W=w33/\bb=(FM r rh rp).isNone,?_,λbb=>aE.of ?_ _⟩,aE.of ?_ _⟩
 · cases rh with
   | none=>exact ae.yes rfl ⟨rfl,rfl⟩
   | some g=>
     refine ae.no rfl ?_
     cases rp with
     | none=>exact ae.yes rfl ⟨rfl,rfl⟩
     | some t=>
       refine ae.no rfl (ae.of (λh=>?_) (λh=>?_)) <;> simp only[dTx,dFx]at h
       · exact⟨rfl,by simp[FM,h]⟩
       · refine⟨rfl,?_⟩
         by_cases h2:Dk r.crs 0<0
         · simp[FM,h2]
         · simp[FM,h,h2]
 · rintro wj ⟨hwj,rfl⟩
   rw[hwj];clear hwj wj
   refine ae.of (λh=>?_) (λh=>?_)
   · have hno:FM r rh rp=none:=by simpa using h
     obtain⟨wq,r3,u3,h3⟩:=dW.store0 (P:=prog) (cs:=LA.cells) rfl (Req.one _) A4z rfl
     refine⟨wq,r3,_,ak.res (dW.load0 u3 rfl),Below.put B33 h3 (by omega),rh,rp,hL,hok,hP,?_⟩
     rw[hno];rfl
   · refine⟨rfl,?_⟩
     cases rh with
     | none=>simp[FM]at h
     | some g=>
       cases rp with
       | none=>simp[FM]at h
       | some t=>
         refine⟨g,t,rfl,rfl,λhc=>?_⟩
         simp[FM,hc]at h
 · rintro wj ⟨hwj,g,t,rfl,rfl,hno⟩
   rw[hwj];clear hwj wj
   have og:g.ok:=gok
   obtain⟨wq,r3,u3,h3⟩:=dW.store0 (P:=prog) (cs:=(⟨Dk r.sch 0==1,g,t,Dk r.crs 0⟩:Req).cells) (Req.len (r:=⟨_,g,_,_⟩) og) (Req.one _) A4z rfl
   refine⟨_,aL.load0 A7z (Hst.len og),_,Il og _ _ _ _,wq,r3,_,ak.res (dW.load0 u3 (Req.len (r:=⟨_,g,_,_⟩) og)),Below.put B33 h3 (by omega),some g,some t,hL,hok,hP,?_⟩
   have e:FM r (some g) (some t)=some ⟨Dk r.sch 0==1,g,t,Dk r.crs 0⟩:=if_neg hno
   rw[e];rfl
theorem pA {w:World}{a b:Option Addr}{n c m e:Nat}{d:DA}(h:DaS w a n c b m e d):
   Cf jy #[daV a n c b m e d] w (Ret λv w'=>v=.bool (okD d)/\bW w w'):=by
 apply wV
 intro k1 w1 hk1 hw1
 have hb:=(hw1▸af w _:bW w w1)
 have A1:ak w1 k1 ai [vI d.k,vI d.st,.slice a n c,.slice b m e]:=ak.new hk1 hw1
 have hx:=h.below hb
 have hm:=hx.ac.len
 have hn:=hx.nx.len
 have hml:=hx.ac.le
 have hnl:=hx.nx.le
 have l0:(Instr.loadAt ay (.pointer (some ⟨k1,0,none⟩))).run prog w1=.ok (vI d.k) w1:=A1.load1 aI rfl rfl
 have l1:(Instr.loadAt ay (.pointer (some ⟨k1,1,none⟩))).run prog w1=.ok (vI d.st) w1:=A1.load1 aI rfl rfl
 have l2:(Instr.loadAt aA (.pointer (some ⟨k1,2,none⟩))).run prog w1=.ok (.slice a n c) w1:=A1.load1 bm rfl rfl
 have no: ¬ d.Ok->Value.bool false=Value.bool (okD d):=λhno=>by
   cases ho:okD d with
   | false=>rfl
   | true=>exact absurd (fG.1 ho) hno
 refine⟨rfl,b,m,e,A1.load1 bf rfl rfl,λw'=>w'=w1/\1 <=d.k/\d.k <=512/\1 <=m/\m <=65536/\(n:Int)=(m:Int)*d.k,⟨rfl,_,l0,?_⟩,aE.of ?_ _⟩
 · refine ae.of (λh1=>⟨no λo=>?_,hb⟩) (λh1=>⟨rfl,_,l0,?_⟩) <;> simp only[dTx,dFx]at h1
   · have:=o.k1;omega
   refine ae.of (λh2=>⟨no λo=>?_,hb⟩) (λh2=>?_) <;> simp only[dTx,dFx]at h2
   · have:=o.k2;omega
   refine ae.of (λh3=>⟨no λo=>?_,hb⟩) (λh3=>?_) <;> simp only[dTx,dFx]at h3
   · have:=o.n1;omega
   refine ae.of (λh4=>⟨no λo=>?_,hb⟩) (λh4=>?_) <;> simp only[dTx,dFx]at h4
   · have:=o.n2;omega
   have hmul:0 <=(m:Int)*d.k/\(m:Int)*d.k <=65536*512:=⟨Int.mul_nonneg (by omega) (by omega),Int.mul_le_mul (by omega) (by omega) (by omega) (by omega)⟩
   refine⟨rfl,a,n,c,l2,rfl,_,l0,?_⟩
   try dsimp only
   rw[show i64.wrap (((m:Nat):Int)*d.k)=(m:Int)*d.k from wrap_i64 (by omega) (by omega)]
   refine ae.of (λh5=>⟨no λo=>?_,hb⟩) (λh5=>⟨rfl,by omega,by omega,by omega,by omega,by simpa using h5⟩)
   have h5:((n:Nat):Int)≠(m:Int)*d.k:=by simpa using h5
   have:=o.len
   rw[<- hn,<- hm]at this
   exact h5 this
 rintro wj ⟨hwj,h1,h2,h3,h4,h5⟩
 rw[hwj];clear hwj wj
 refine⟨rfl,a,n,c,l2,λM i w'=>∃j:Nat,j <=d.nx.length/\i=(j:Int)/\M=d.nx.length-j/\(d.nx.take j).all (inR (m:Int))=true/\w'=w1,⟨_,0,by omega,rfl,rfl,rfl,rfl⟩,?_⟩
 intro M i
 refine aE.of ?_ _
 rintro w' ⟨j,hj,rfl,rfl,hall,hw'⟩
 rw[hw'];clear hw' w'
 refine ae.of (λh6=>?_) (λh6=>?_) <;> simp only[dTx,dFx]at h6
 · have hlt:j<d.nx.length:=by omega
   have bad: ¬ (0 <=d.nx[j]/\d.nx[j]<(m:Int))-> ¬ d.Ok:=λhno o=>by
     have:=o.nx0 _ (List.getElem_mem hlt)
     rw[<- hm]at this
     exact hno this
   refine⟨⟨⟨by omega,h6⟩,hx.nx.isSome hlt⟩,_,hx.nx.num aI hlt,ae.of (λh7=>⟨no (bad ?_),hb⟩) (λh7=>ae.of (λh8=>⟨no (bad ?_),hb⟩) (λh8=>?_))⟩
   · simp only[dTx]at h7;omega
   · simp only[dTx]at h8;omega
   · simp only[dFx]at h7 h8
     refine⟨d.nx.length-(j+1),by omega,j+1,by omega,by rw[wrap_i64 (by omega) (by omega)];omega,rfl,?_,rfl⟩
     rw[List.take_succ_eq_append_getElem hlt,List.all_append,hall]
     unfold inR
     rw[List.all_cons,List.all_nil,decide_eq_true (show 0 <=d.nx[j] by omega),decide_eq_true (show d.nx[j]<(m:Int) by omega)];rfl
 · have:j=d.nx.length:=by omega
   subst this
   rw[List.take_length]at hall
   refine⟨rfl,_,l1,ae.of (λh7=>⟨rfl,_,l1,?_,hb⟩) (λh7=>⟨no λo=>?_,hb⟩)⟩
   · simp only[ge_iff_le,dTx]at h7
     congr 1
     unfold okD
     rw[<- hm,<- hn,decide_eq_true h1,decide_eq_true h2,decide_eq_true h3,decide_eq_true h4,decide_eq_true h5,decide_eq_true h7]
     unfold inR at hall
     rw[hall]
     simp
   · simp only[ge_iff_le,dFx]at h7
     have:=o.s0;omega
theorem zz (l:List Txt)(s:Txt):ofT (iy l) s=ofT (mJ l) s:=Lb (lG l).1 (zr l) (xr l) s
theorem Ce {h:Hst}(hn:h.name.length <=100000):(az h).length <=100001:=by
 unfold az
 split
 · have:=gG 46 h.name [];omega
 · simp
theorem Fo {h:Hst} :∀x∈az h,x.length <=h.name.length:=by
 unfold az
 split
 · intro x hx;have:=js 46 h.name [] x hx;simpa using this
 · intro x hx;cases hx
theorem rv {a:Option Addr}{n c:Nat}{l:List Txt}(hl:l.length <=1000000)(hx:∀x∈l,x.length <=1000000){h:Hst}(o:h.ok)(hn:h.name.length <=100000){w:World}(hs:Sl tS w iv a n c l):
   Cf kE #[.slice a n c,h.v] w (Ret (DR (mJ l) h w)):=by
 apply yG
 intro k3 w3 hk3 hw3 k8 w8 hk8 hw8
 have hb3:=(hw3▸af w _:bW w w3)
 have hb8:=(hw8▸af w3 _:bW w3 w8)
 have A3:ak w3 k3 ah h.cells:=ak.new hk3 hw3
 have O8:Ow fu ay w8 NoB (some ⟨k8,0,none⟩) 0 0 ([]:List Int):=Ow.newF (l:=[]) gv hk8 hw8 (gy.nil _ _ _) (by decide)
 have hB8:=ab hb3 hb8 hb3.size
 have F8:bp w.heap.size (some ⟨k8,0,none⟩):=(lu hk8).mono hb3.size
 refine⟨_,aL.load0 (A3.below hb8) (Hst.len o),?_⟩
 refine av (gq o (by omega) w8) ?_
 rintro _ w10 ⟨rfl,hb10⟩
 have hB10:=ab hB8 hb10 hB8.size
 have A10:=(A3.below hb8).below hb10
 refine⟨_,rfl,ae.of (λh1=>?_) (λh1=>⟨rfl,h.kind,A10.load1 aI rfl rfl,ae.of (λh2=>?_) (λh2=>?_)⟩)⟩
 · have hr:aV h=false:=by simpa using h1
   refine⟨_,_,_,rfl,?_,F8,hB10⟩
   have:hwV (mJ l) h=[]:=by unfold hwV cS;rw[if_neg (by rw[hr];simp)];rfl
   rw[this];exact O8.below hb10
 · have hr:aV h=true:=by simpa using h1
   have hk:h.kind≠1:=by simpa using h2
   refine⟨_,aL.load0 A10 (Hst.len o),?_⟩
   refine av (rr o w10) ?_
   rintro _ w18 ⟨rfl,hb18⟩
   have hB18:=ab hB10 hb18 hB10.size
   have hxl:=rc o
   refine⟨_,rfl,?_⟩
   refine av (wt a n c l (dG h) hl hx (by omega) w18 (hs.below hB18)) ?_
   rw[zz]
   rintro _ w19 ⟨rfl,hb19⟩
   have hB19:=ab hB18 hb19 hB18.size
   refine⟨_,rfl,?_⟩
   intro k20 w20 hk20 hw20
   have hb20:=(hw20▸af w19 _:bW w19 w20)
   have e:hwV (mJ l) h=[ofT (mJ l) (dG h)]:=by unfold hwV cS;rw[if_pos hr,if_neg hk];rfl
   refine⟨_,_,_,rfl,?_,(lu hk20).mono hB19.size,ab hB19 hb20 hB19.size⟩
   rw[e]
   exact Ow.newF (l:=[vI (ofT (mJ l) (dG h))]) gv hk20 hw20 (gy.one eX) (by show 1 <=maxLen;decide)
 · have hr:aV h=true:=by simpa using h1
   have hk:h.kind=1:=by simpa using h2
   refine⟨_,aL.load0 A10 (Hst.len o),?_⟩
   refine av (j4 o (by omega) w10) ?_
   rintro _ w22 ⟨a2,n2,c2,rfl,oL,fL0,hb22⟩
   have hB22:=ab hB10 hb22 hB10.size
   have hLl:=Ce (h:=h) hn
   have hn2:=oL.len
   subst hn2
   have ew:hwV (mJ l) h=(az h).reverse.map (ofT (mJ l)):=by unfold hwV cS;rw[if_pos hr,if_pos hk]
   have k8l:k8<w8.heap.size:=(ak.new (vs:=[]) hk8 hw8:ak w8 k8 ay []).lt
   have oLs:Sl tS w22 (λg=>bu a2=some g) a2 (az h).length c2 (az h):=oL.sl (λb _ hb=>hb.elim) λg hg=>hg
   have fL:∀g,bu a2=some g->w10.heap.size <=g/\g<w22.heap.size:=λg hg=>⟨fL0 g hg,oL.lt g hg⟩
   have s10:=hb10.size
   refine⟨a2,_,c2,rfl,λM aa ll cc i W=>∃j:Nat,j <=(az h).length/\i=((az h).length:Int)-1-(j:Int)/\M=(az h).length-j/\Ow fu ay W NoB aa ll cc (((az h).reverse.take j).map (ofT (mJ l)))/\(∀g,bu aa=some g->g=k8\/w22.heap.size <=g)/\Sl tS W (λg=>bu a2=some g) a2 (az h).length c2 (az h)/\bW w W/\w22.heap.size <=W.heap.size,
     ⟨_,0,by omega,by rw[wrap_i64 (by omega) (by omega)];omega,rfl,by rw[List.take_zero];exact(O8.below hb10).below hb22,λg hg=>.inl (by simp[bu]at hg;exact hg.symm),oLs,hB22,Nat.le_refl _⟩,?_⟩
   intro M aa ll cc i
   refine aE.of ?_ _
   rintro wl ⟨j,hj,rfl,rfl,hO,hF,hL,hBw,hsz⟩
   have hFw:bp w.heap.size aa:=λg hg=>by
     rcases hF g hg with h1|h1
     · have:=F8 k8 (by simp[bu]);omega
     · have:=hB22.size;omega
   refine ae.of (λh3=>?_) (λh3=>?_) <;> simp only[ge_iff_le,dTx,dFx]at h3
   · have hjk:j<(az h).length:=by omega
     obtain⟨q,hq⟩:∃q:Nat,q=(az h).length-1-j:=⟨_,rfl⟩
     have hqi:((az h).length:Int)-1-(j:Int)=(q:Int):=by omega
     have hql:q<(az h).length:=by omega
     rw[hqi]
     obtain⟨v,hv,hrep⟩:=hL.load1 (P:=prog) (i:=(q:Int)) aB rfl rfl (by rw[Int.toNat_natCast];exact hql)
     obtain⟨rfl,_⟩:=kh hrep
     simp only[Int.toNat_natCast]at hv
     have hrev:(az h).reverse[j]? =some (az h)[q]:=by
       rw[List.getElem?_reverse hjk,<- hq,List.getElem?_eq_getElem hql]
     refine⟨⟨⟨by omega,by omega⟩,hL.isSome hql⟩,_,hv,?_⟩
     refine av (wt a n c l (az h)[q] hl hx (by have:=Fo (h:=h) _ (List.getElem_mem hql);omega) wl (hs.below hBw)) ?_
     rw[zz]
     rintro _ w36 ⟨rfl,hb36⟩
     refine⟨_,rfl,?_⟩
     intro k37 w37 hk37 hw37
     have hb37:=(hw37▸af w36 _:bW w36 w37)
     have s36:=hb36.size
     have s37:=hb37.size
     have b37:=ab hb36 hb37 hb36.size
     have hsrc:Src fu w37 NoB (some ⟨k37,0,none⟩) 1 [ofT (mJ l) (az h)[q]]:=Src.new1F gv hk37 hw37 eX
     obtain⟨w38,a',n',c',r38,o38,g38,f38⟩:=co (ty:=aA) bm ij (by decide) (hO.below b37) (λ_ _ h=>h) (cm:=1) hsrc (by rw[List.length_map,List.length_take];simp;omega)
     have B37:=ab hBw b37 hBw.size
     refine⟨w38,a',n',c',r38,(az h).length-(j+1),by omega,j+1,by omega,by rw[wrap_i64 (by omega) (by omega)];omega,rfl,?_,λg hg=>?_,(hL.below b37).keep (gI g38 λb hb e=>?_),B37.grown g38 B37.size λg hg=>hFw g hg,by have:=g38.size;omega⟩
     · have hlt:j<(az h).reverse.length:=by rw[List.length_reverse];exact hjk
       rw[List.getElem?_eq_getElem hlt]at hrev
       rw[List.take_succ_eq_append_getElem hlt,List.map_append,Option.some.inj hrev]
       exact o38
     · rcases f38 g hg with h1|h1
       · exact hF g h1
       · right;omega
     · have h1:=fL b hb
       rcases hF b e.symm with h2|h2 <;> omega
   · have hjk:j=(az h).length:=by omega
     subst hjk
     refine⟨aa,ll,cc,rfl,?_,hFw,hBw⟩
     rw[ew]
     rwa [List.take_of_length_le (by rw[List.length_reverse];exact Nat.le_refl _)]at hO
theorem yk {a:Option Addr}{n c:Nat}{l:List Txt}(hl:l.length <=1000000)(hx:∀x∈l,x.length <=1000000){h:Hst}(o:h.ok)(hn:h.name.length <=100000){w:World}(hs:Sl tS w iv a n c l):
   Cf mp #[.slice a n c,h.v] w (Ret λv w'=>v=.bool (kB (mJ l) h)/\bW w w'):=by
 apply wW
 intro k3 w3 hk3 hw3
 have hb3:=(hw3▸af w _:bW w w3)
 have A3:ak w3 k3 ah h.cells:=ak.new hk3 hw3
 refine⟨_,aL.load0 A3 (Hst.len o),?_⟩
 refine av (rv hl hx o hn (hs.below hb3)) ?_
 rintro _ w10 ⟨a1,n1,c1,rfl,hO,_,hb10⟩
 have hB10:=ab hb3 hb10 hb3.size
 have hn1:=hO.len
 subst hn1
 have hle:=hO.all.le
 obtain⟨W,hW⟩:∃W,W=hwV (mJ l) h:=⟨_,rfl⟩
 rw[<- hW]at hO hle ⊢
 refine⟨a1,_,c1,rfl,λM i w'=>∃j:Nat,j <=W.length/\i=(j:Int)/\M=W.length-j/\(((mJ l).length:Nat):Int) ∉ W.take j/\bW w w'/\Sl fu w' iv a1 W.length c1 W,⟨_,0,by omega,rfl,rfl,by simp,hB10,hO.all⟩,?_⟩
 intro M i
 refine aE.of ?_ _
 rintro wl ⟨j,hj,rfl,rfl,hno,hBl,hS⟩
 refine ae.of (λh3=>?_) (λh3=>?_) <;> simp only[dTx,dFx]at h3
 · have hlt:j<W.length:=by omega
   refine⟨⟨⟨by omega,h3⟩,hS.isSome hlt⟩,_,hS.num aI hlt,?_⟩
   refine av (pz a n c l hl wl (hs.below hBl)) ?_
   rintro _ w19 ⟨a2,n2,c2,rfl,hT,_,hb19⟩
   have hn2:=hT.len
   have hB19:=ab hBl hb19 hBl.size
   rw[FD]at hn2
   refine⟨a2,n2,c2,rfl,ae.of (λh4=>⟨?_,hB19⟩) (λh4=>?_)⟩
   · have h4:W[j]=((n2:Nat):Int):=by simpa using h4
     unfold kB
     rw[<- hW,decide_eq_true (p:=(((mJ l).length:Nat):Int)∈W) (by rw[<- hn2,<- h4];exact List.getElem_mem hlt)]
     simp
   · have h4:W[j]≠((n2:Nat):Int):=by simpa using h4
     refine⟨W.length-(j+1),by omega,j+1,by omega,by rw[wrap_i64 (by omega) (by omega)];omega,rfl,?_,hB19,hS.below hb19⟩
     rw[List.take_succ_eq_append_getElem hlt,List.mem_append]
     rintro(h5|h5)
     · exact hno h5
     · exact h4 (by rw[<- hn2]at h5;exact(by simpa using h5:((n2:Nat):Int)=W[j]).symm)
 · have:j=W.length:=by omega
   subst this
   rw[List.take_length]at hno
   refine⟨?_,hBl⟩
   unfold kB
   rw[<- hW,decide_eq_false hno]
   congr 1
   by_cases e:W=[]
   · rw[e];rfl
   · rw[decide_eq_false e]
     have:0<W.length:=List.length_pos_iff.2 e
     simp;omega
theorem Jn:∀{l m:List Txt},l.Pairwise (· < ·)->m.Pairwise (· < ·)->(∀x,x∈l ↔ x∈m)->l=m
 | [],[],_,_,_=>rfl
 | [],y::m,_,_,h=>absurd ((h y).2 List.mem_cons_self) (by simp)
 | x::l,[],_,_,h=>absurd ((h x).1 List.mem_cons_self) (by simp)
 | x::l,y::m,hl,hm,h=>by
   obtain⟨hx,hl'⟩:=List.pairwise_cons.1 hl
   obtain⟨hy,hm'⟩:=List.pairwise_cons.1 hm
   have e:x=y:=by
     rcases List.mem_cons.1 ((h x).1 List.mem_cons_self)with h1|h1
     · exact h1
     · rcases List.mem_cons.1 ((h y).2 List.mem_cons_self)with h2|h2
       · exact h2.symm
       · exact absurd (List.lt_trans (hy x h1) (hx y h2)) (List.lt_irrefl _)
   subst e
   congr 1
   refine Jn hl' hm' λz=>?_
   have hz:=h z
   rw[List.mem_cons,List.mem_cons]at hz
   constructor
   · intro hzl
     rcases hz.1 (.inr hzl)with h1|h1
     · subst h1;exact absurd (hx z hzl) (List.lt_irrefl _)
     · exact h1
   · intro hzm
     rcases hz.2 (.inr hzm)with h1|h1
     · subst h1;exact absurd (hy z hzm) (List.lt_irrefl _)
     · exact h1
def hwn (s:Txt):Hst:=⟨1,s,ad0⟩
theorem pr {L:List Txt}{s:Txt}(hj:Lib.join L [46]=s)(hne:L≠[])(hl:∀x∈L,aW x=true)(hd:cG (qy L)=false)(hs:s.length <=253):aV (hwn s)=true/\cS (hwn s)=L.reverse:=by
 subst hj
 obtain⟨h1,h2,h3⟩:=nJ hne hl hd hs
 have h2':aV (hwn (Lib.join L [46]))=true:=h2
 have h3':az (hwn (Lib.join L [46]))=L:=h3
 refine⟨h2',?_⟩
 unfold cS
 rw[if_pos h2',if_pos (show(hwn (Lib.join L [46])).kind=1 from rfl),h3']
theorem Ey {ts:List Txt}(htl:ts.length <=511){h:Hst}(o:h.ok)(hk:(cD ts h).length <=127):ue (chD (ts.length+1) (cD ts h) 0) (cD ts h) 0:=by
 have:=An (k:=ts.length+1) (by omega) (by omega) (kN ts h) (by omega) 0 (by omega)
 simpa using this
theorem Jf {ts:List Txt}(htl:ts.length <=511){h:Hst}(o:h.ok)(hk:(cD ts h).length <=127)(k1:h.kind=1)(b:Bool):ue (tB ts h b) (cD ts h) (if b=true then 1 else 2):=by
 unfold tB
 rw[if_neg (λc=>c k1)]
 cases b with
 | true=>
   rw[if_pos rfl,if_pos rfl]
   have:=An (k:=ts.length+1) (by omega) (by omega) (kN ts h) (by omega) 1 (by omega)
   simpa using this
 | false=>
   rw[if_neg (by simp),if_neg (by simp)]
   exact Kc (by omega) (by omega) (kN ts h) (by omega) rfl rfl
theorem DY {ts:List Txt}{h:Hst}(k1:h.kind≠1):tB ts h true=chD (ts.length+1) (cD ts h) 0/\tB ts h false=noD (ts.length+1):=by
 unfold tB
 rw[if_pos k1,if_pos k1,if_pos rfl,if_neg (by simp)]
 exact⟨rfl,rfl⟩
theorem LL (ts:List Txt)(h:Hst)(b:Bool):(tB ts h b).k=(ts.length:Int)+1:=by
 have e:((ts.length+1:Nat):Int)=(ts.length:Int)+1:=by omega
 unfold tB
 split
 · split
   · exact e
   · exact e
 · split
   · exact e
   · exact e
theorem KT {ts:List Txt}(htl:ts.length <=511){h:Hst}(o:h.ok)(hk:(cD ts h).length <=127)(b:Bool):(tB ts h b).Ok/\(tB ts h b).n <=(cD ts h).length+3:=by
 by_cases k1:h.kind=1
 · have:=Jf htl o hk k1 b
   refine⟨this.ok,?_⟩
   have h2:=this.n
   split at h2 <;> omega
 · obtain⟨e1,e2⟩:=DY (ts:=ts) k1
   cases b with
   | true=>
     rw[e1]
     have:=Ey htl o hk
     refine⟨this.ok,?_⟩
     have h2:=this.n
     omega
   | false=>
     rw[e2]
     exact⟨Ew (by omega) (by omega),by show 1 <=_;omega⟩
theorem yz (a:lU){w K}(h:nA w (.cells br ah) λb c=>∃d,Sv ah (vA b 0) (.agg #[vI 1,vS a,.int .u8 0,.int .u8 0,.int .u8 0,.int .u8 0,.int .u8 0,.int .u8 0,.int .u8 0,.int .u8 0,.int .u8 0,.int .u8 0,.int .u8 0,.int .u8 0,.int .u8 0,.int .u8 0,.int .u8 0,.int .u8 0]) c d/\∃e,Rv ah (vA b 0) d e/\K e d):Cf kC #[vS a] w (Ret K):=ru func76 [] h
theorem nY {w K}(h:nA w (.cells #[vS [104],vS [99,111,109]] aq) λa b=>uP kF #[.slice (vA a 0) 2 2] b λc d=>uV kC #[vS [104,46,99,111,109]] d λe f=>∃g,(Instr.build bt #[(2,e),(3,.bool true),(4,vS [47,97]),(8,vI 1)]).run prog f=.ok g f/\Cf mr #[.pointer c,g,vI 0] f λi j=>∃k l,i=rT #[k,vI l]/\nA j (.cells fA ar) λm n=>∃o,Sv ar (vA m 0) k n o/\∃p,Ld ar (vA m 0) o p/\Cf je #[.pointer c,p] o λq r=>∃s t u,q=rT #[s,.bool t,vI u]/\nA r (.cells jq ax) λv x=>∃y,Sv ax (vA v 0) s x y/\ae (l==(0:Int)) (ae (u==(0:Int)) (ae t (∃z,(∀A,bW y A->Ld ax (vA v 0) A z)/\∃A,(∀B,bW y B->Cf kC #[vS [104,46,99,111,109]] B λC D=>C=.returned A/\Below y.heap.size B D)/\∃B,(∀C,bW y C->(Instr.build ax #[(1,A),(2,vS [47,97])]).run prog C=.ok B C)/\∃C,(∀D,bW y D->(do eqGuard .eql ax (.tmp 33) (.tmp 35) z B;binOp .eql ax z B:Sem Value).run prog D=.ok (.bool C) D)/\∀D,bW y D->K (.bool C) D) (∀z,bW y z->K (.bool false) z)) (∀z,bW y z->K (.bool false) z)) (∀z,bW y z->K (.bool false) z)):Cf eM #[] w (Ret K):=ru func33 [] h
theorem wD (a:Option Addr)(b c:Nat)(d:Option Addr)(e f:Nat){w K}(h:∃g:Nat->FP [.one (.int .i64)],(∃i,g i (0:Int) w)/\∀i j,aE 9 (∀k,g i j k->ae (decide (j<((b:Nat):Int))) ((bx j ((b:Nat):Int)/\Option.isSome a=true)/\∃l,Ld aq (am a j 1) k (vS l)/\ae (decide (((List.length l:Nat):Int)>(70:Int))) (K (.bool true) k) (∃m:Nat,m<i/\g m (i64.wrap (j+(1:Int))) k)) (∃l:Nat->FP [.one (.int .i64)],(∃m,l m (0:Int) k)/\∀m n,aE 9 (∀o,l m n o->ae (decide (n<((e:Nat):Int))) ((bx n ((e:Nat):Int)/\Option.isSome d=true)/\∃p,Ld aq (am d n 1) o (vS p)/\ae (decide (((List.length p:Nat):Int)>(300:Int))) (K (.bool true) o) (∃q:Nat,q<m/\l q (i64.wrap (n+(1:Int))) o)) (K (.bool (decide (((b:Nat):Int)>(16:Int)))) o))))):Cf lZ #[.slice a b c,.slice d e f] w (Ret K):=ru func34 [(6,[(11,.one (.int .i64))]),(29,[(21,.one (.int .i64))])] h
theorem yA (a:Value){w K}(h:nA w (.cells (Value.cells a) ar) λb c=>true/\true/\∃d e f,Ld aQ (vA b 3) c (.slice d e f)/\ae (((e:Nat):Int)==(0:Int)) (true/\true/\∃g i j,Ld aQ (vA b 7) c (.slice g i j)/\ae (((i:Nat):Int)==(0:Int)) (true/\true/\∃k,Ld ay (vA b 0) c (vI k)/\ae (k==(0:Int)) (true/\true/\∃l,Ld ay (vA b 4) c (vI l)/\ae (l==(0:Int)) (true/\∃m n,Ld iB (vA b 8) c (.agg #[.bool m,.bool n])/\∃o,(do eqGuard .eql iB (.tmp 29) (.tmp 30) (.agg #[.bool m,.bool n]) (.agg #[.bool false,.bool false]);binOp .eql iB (.agg #[.bool m,.bool n]) (.agg #[.bool false,.bool false]):Sem Value).run prog c=.ok (.bool o) c/\ae o (true/\∃p q r,Ld iC (vA b 10) c (.agg #[.bool p,.bool q,.bool r])/\∃s,(do eqGuard .eql iC (.tmp 35) (.tmp 36) (.agg #[.bool p,.bool q,.bool r]) (.agg #[.bool false,.bool false,.bool false]);binOp .eql iC (.agg #[.bool p,.bool q,.bool r]) (.agg #[.bool false,.bool false,.bool false]):Sem Value).run prog c=.ok (.bool s) c/\K (.bool s) c) (K (.bool false) c)) (K (.bool false) c)) (K (.bool false) c)) (K (.bool false) c)) (K (.bool false) c)):Cf nt #[a] w (Ret K):=ru func36 [] h
theorem wE (a:Option Addr)(b c:Nat)(d e:Value)(f:lU){w K}(h:nA w (.cells (Value.cells d) ar) λg i=>nA i (.cells (Value.cells e) ah) λj k=>true/\∃l m n o p q r s,(∀t,bW k t->Ld ai (vA g 0) t (.agg #[vI l,vI m,.slice n o p,.slice q r s]))/\∃t,(∀u,bW k u->Cf jy #[.agg #[vI l,vI m,.slice n o p,.slice q r s]] u λv x=>v=.returned (.bool t)/\bW u x)/\ae t (true/\∃u v x y z A B C,(∀D,bW k D->Ld ai (vA g 4) D (.agg #[vI u,vI v,.slice x y z,.slice A B C]))/\∃D,(∀E,bW k E->Cf jy #[.agg #[vI u,vI v,.slice x y z,.slice A B C]] E λF G=>F=.returned (.bool D)/\bW E G)/\ae D (true/\true/\∃E F G,(∀H,bW k H->Ld aQ (vA g 3) H (.slice E F G))/\∃H,(∀I,bW k I->Ld ah (vA j 0) I H)/\∃I:FP [.one .slice],(∀J L M N O,I J L M N->bW N O->I J L M O)/\(∀J,bW k J->uL kE #[.slice a b c,H] J λL M N O=>I L M N O/\bW J O)/\∀J L M,ae (decide (((F:Nat):Int) <=(i64.wrap (((L:Nat):Int)+(4:Int))))) ((∀N,bW k N->I J L M N->true=true)/\(∀N,bW k N->I J L M N->true=true)/\∃N O P,(∀Q,bW k Q->I J L M Q->Ld aQ (vA g 7) Q (.slice N O P))/\∀Q,bW k Q->I J L M Q->K (.bool (decide (((O:Nat):Int) <=(i64.wrap (((List.length f:Nat):Int)+(4:Int)))))) Q) (∀N,bW k N->I J L M N->K (.bool false) N)) (∀E,bW k E->K (.bool false) E)) (∀u,bW k u->K (.bool false) u)):Cf ma #[.slice a b c,d,e,vS f] w (Ret K):=ru func37 [(1000003,[]),(3000003,[(0,.one .bool),(1,.one .bool),(2,.one .bool),(3,.one .bool),(4,.one .bool),(5,.one .bool),(6,.one .bool),(7,.one .bool),(8,.one .bool),(9,.one .bool),(10,.one .bool),(13,.one .bool),(11,.one .bool),(12,.one .bool),(14,.one .bool),(15,.one .slice),(16,.one .bool),(17,.one .bool),(18,.one .bool),(19,.one .bool),(20,.one .bool),(21,.one .bool),(22,.one .bool),(25,.one .bool),(23,.one .bool),(24,.one .bool),(26,.one .bool),(27,.one .bool),(28,.one .bool),(29,.one .bool),(30,.one .bool)])] h
theorem rj (s:Txt)(w:World):Cf kC #[vS s] w (Ret λv w'=>v=(hwn s).v/\bW w w'):=by
 apply yz
 intro k2 w2 hk2 hw2
 have hb2:=(hw2▸af w _:bW w w2)
 have A2:ak w2 k2 ah gK.cells:=ak.new hk2 hw2
 obtain⟨wx,s1,v1,g1⟩:=aL.store0 (P:=prog) (cs:=(hwn s).cells) rfl (Hst.one _) A2 rfl
 exact⟨wx,s1,_,ak.res (aL.load0 v1 rfl),rfl,Below.put hb2 g1 (by omega)⟩
theorem Aq (w:World):Cf nt #[rg0.v rp0 rp0] w (Ret λv w'=>v=.bool true/\bW w w'):=by
 apply yA
 intro k1 w1 hk1 hw1
 have hb:=(hw1▸af w _:bW w w1)
 have A1:ak w1 k1 ar (rg0.cells rp0 rp0):=ak.new hk1 hw1
 refine⟨rfl,rfl,none,0,0,A1.load1 bf rfl (i:=3) rfl,ae.yes rfl ⟨rfl,rfl,none,0,0,A1.load1 bf rfl (i:=7) rfl,ae.yes rfl ⟨rfl,rfl,0,A1.load1 aI rfl (i:=0) rfl,ae.yes rfl ⟨rfl,rfl,0,A1.load1 aI rfl (i:=4) rfl,ae.yes rfl ⟨rfl,false,false,?_,true,by kernel_rfl,ae.yes rfl ⟨rfl,false,false,false,?_,true,by kernel_rfl,rfl,hb⟩⟩⟩⟩⟩⟩
 · exact HP.load A1 (i:=8) (us:=[.bool false,.bool false]) rfl λj hj=>by
     match j,hj with
     | 0,_=>rfl
     | 1,_=>rfl
     | j+2,hj=>omega
 · exact HQ.load A1 (i:=10) (us:=[.bool false,.bool false,.bool false]) rfl λj hj=>by
     match j,hj with
     | 0,_=>rfl
     | 1,_=>rfl
     | 2,_=>rfl
     | j+3,hj=>omega
def qx (l ts:List Txt):Bool:=(l.any λs=>decide (70<s.length)) || ((ts.any λs=>decide (300<s.length)) || decide (16<l.length))
theorem xZ {w:World}{a:Option Addr}{n c:Nat}{l:List Txt}(hs:Sl tS w iv a n c l){a1:Option Addr}{n1 c1:Nat}{ts:List Txt}(hh:Sl tS w iv a1 n1 c1 ts):
   Cf lZ #[.slice a n c,.slice a1 n1 c1] w (Ret λv w'=>v=.bool (qx l ts)/\w'=w):=by
 have hn:=hs.len
 have hn1:=hh.len
 subst hn hn1
 have hle:=hs.le
 have hle1:=hh.le
 apply wD
 refine⟨λm i w'=>∃j:Nat,j <=l.length/\i=(j:Int)/\m=l.length-j/\((l.take j).any λs=>decide (70<s.length))=false/\w'=w,⟨_,0,by omega,rfl,rfl,rfl,rfl⟩,?_⟩
 intro m i
 refine aE.of ?_ _
 rintro w' ⟨j,hj,rfl,rfl,hno,hw'⟩
 rw[hw'];clear hw' w'
 refine ae.of (λh=>?_) (λh=>?_) <;> simp only[dTx,dFx]at h
 · have hlt:j<l.length:=by omega
   obtain⟨v,hv,hrep⟩:=hs.load1 (P:=prog) (i:=(j:Int)) aB rfl rfl (by simpa using hlt)
   obtain⟨rfl,_⟩:=kh hrep
   simp only[Int.toNat_natCast]at hv
   refine⟨⟨⟨by omega,h⟩,hs.isSome hlt⟩,_,hv,ae.of (λh2=>⟨?_,rfl⟩) (λh2=>?_)⟩
   · unfold qx
     have:(l.any λs=>decide (70<s.length))=true:=List.any_eq_true.2 ⟨_,List.getElem_mem hlt,by simp only[gt_iff_lt,dTx]at h2 ⊢;omega⟩
     rw[this];rfl
   · refine⟨l.length-(j+1),by omega,j+1,by omega,by rw[wrap_i64 (by omega) (by omega)];omega,rfl,?_,rfl⟩
     simp only[gt_iff_lt,dFx]at h2
     rw[List.take_succ_eq_append_getElem hlt,List.any_append,hno,List.any_cons,List.any_nil,decide_eq_false (show ¬ 70<(l[j]).length by omega)];rfl
 · have:j=l.length:=by omega
   subst this
   rw[List.take_length]at hno
   refine⟨λm i w'=>∃j:Nat,j <=ts.length/\i=(j:Int)/\m=ts.length-j/\((ts.take j).any λs=>decide (300<s.length))=false/\w'=w,⟨_,0,by omega,rfl,rfl,rfl,rfl⟩,?_⟩
   intro m i
   refine aE.of ?_ _
   rintro w' ⟨j,hj',rfl,rfl,hno',hw'⟩
   rw[hw'];clear hw' w'
   refine ae.of (λh3=>?_) (λh3=>?_) <;> simp only[dTx,dFx]at h3
   · have hlt:j<ts.length:=by omega
     obtain⟨v,hv,hrep⟩:=hh.load1 (P:=prog) (i:=(j:Int)) aB rfl rfl (by simpa using hlt)
     obtain⟨rfl,_⟩:=kh hrep
     simp only[Int.toNat_natCast]at hv
     refine⟨⟨⟨by omega,h3⟩,hh.isSome hlt⟩,_,hv,ae.of (λh2=>⟨?_,rfl⟩) (λh2=>?_)⟩
     · unfold qx
       have:(ts.any λs=>decide (300<s.length))=true:=List.any_eq_true.2 ⟨_,List.getElem_mem hlt,by simp only[gt_iff_lt,dTx]at h2 ⊢;omega⟩
       rw[this,hno];rfl
     · refine⟨ts.length-(j+1),by omega,j+1,by omega,by rw[wrap_i64 (by omega) (by omega)];omega,rfl,?_,rfl⟩
       simp only[gt_iff_lt,dFx]at h2
       rw[List.take_succ_eq_append_getElem hlt,List.any_append,hno',List.any_cons,List.any_nil,decide_eq_false (show ¬ 300<(ts[j]).length by omega)];rfl
   · have:j=ts.length:=by omega
     subst this
     rw[List.take_length]at hno'
     refine⟨?_,rfl⟩
     unfold qx
     rw[hno,hno',Bool.false_or,Bool.false_or]
     congr 1
     rw[Bool.eq_iff_iff]
     simp only[gt_iff_lt,dTx]
     omega
theorem Co {P:Program}{f:FuncId}{args:Array Value}{u:World}{b:Bool}(h:Calls P f args u (Ret λv w'=>v=.bool b/\bW u w')):Calls P f args u λe w'=>e=.returned (.bool b)/\bW u w':=
 h.mono λe w' ⟨v,he,hv,hb⟩=>⟨by rw[he,hv],hb⟩
theorem GP (ts:List Txt){h:Hst}(o:h.ok):(hwV ts h).length <=127:=by
 rw[uj]
 unfold cD
 rw[List.length_map,List.length_map]
 by_cases hr:aV h=true
 · exact tw o hr
 · have:cS h=[]:=Classical.byContradiction λhc=>hr ((mE o).1 hc)
   rw[this];exact Nat.zero_le _
def xd (ts:List Txt)(r:Rgn)(h:Hst)(path:Txt):Bool:=okD r.h&&(okD r.p&&(decide (r.h.ac.length <=(hwV ts h).length+4)&&decide (r.p.ac.length <=path.length+4)))
theorem ya {w:World}{a:Option Addr}{n c:Nat}{l:List Txt}(hs:Sl tS w iv a n c l)(hl:l.length <=1000000)(hx:∀x∈l,x.length <=1000000){r:Rgn}{x y:Rgp}(hr:RgS w r x y){h:Hst}(o:h.ok)(hn:h.name.length <=100000)(path:Txt)(hp:path.length <=1000000):
   Cf ma #[.slice a n c,r.v x y,h.v,vS path] w (Ret λv w'=>v=.bool (xd (mJ l) r h path)/\bW w w'):=by
 apply wE
 intro k5 w5 hk5 hw5 k6 w6 hk6 hw6
 have b5:=(hw5▸af w _:bW w w5)
 have b6:=(hw6▸af w5 _:bW w5 w6)
 have A5:ak w5 k5 ar (r.cells x y):=ak.new hk5 hw5
 have A6:ak w6 k6 ah h.cells:=ak.new hk6 hw6
 have A56:=A5.below b6
 have B6:=ab b5 b6 b5.size
 have hr6:=hr.below B6
 have hs6:=hs.below B6
 have m1:=hr.h.ac.len
 have m2:=hr.p.ac.len
 have e1:=hr.h.ac.le
 have e2:=hr.p.ac.le
 have fin:∀{W:World},bW w6 W->bW w W:=λhb=>ab B6 hb B6.size
 refine⟨rfl,_,_,x.a,x.n,x.c,x.b,x.m,x.e,λu hu=>AM (A56.below hu),okD r.h,λu hu=>Co (pA (hr6.h.below hu)),ae.of (λh1=>?_) (λh1 wq hq=>⟨by unfold xd;rw[h1];rfl,fin hq⟩)⟩
 refine⟨rfl,_,_,y.a,y.n,y.c,y.b,y.m,y.e,λu hu=>AN (A56.below hu),okD r.p,λu hu=>Co (pA (hr6.p.below hu)),ae.of (λh2=>?_) (λh2 wq hq=>⟨by unfold xd;rw[h1,h2];rfl,fin hq⟩)⟩
 refine⟨rfl,rfl,x.b,x.m,x.e,λu hu=>(A56.below hu).load1 bf rfl (i:=3) rfl,_,λu hu=>aL.load0 (A6.below hu) (Hst.len o),λ_ l' _ _=>l'=(hwV (mJ l) h).length/\l' <=140737488355328,λ_ _ _ _ _ hj _=>hj,λu hu=>?_,λa24 l24 c24=>ae.of (λh3=>?_) (λh3 wq hq hj=>?_)⟩
 · refine(rv hl hx o hn (hs6.below hu)).mono ?_
   rintro e w' ⟨v,he,a',n',c',rfl,hO,hF,hb⟩
   have h1:=hO.all.len
   have h2:=hO.all.le
   have h4:=GP (mJ l) o
   exact⟨a',n',c',he,⟨h1,by omega⟩,hb⟩
 · refine⟨λ_ _ _=>rfl,λ_ _ _=>rfl,y.b,y.m,y.e,λu hu _=>(A56.below hu).load1 bf rfl (i:=7) rfl,λwq hq hj=>⟨?_,fin hq⟩⟩
   obtain⟨rfl,hj2⟩:=hj
   rw[wrap_i64 (by omega) (by omega),dTx]at h3
   unfold xd
   rw[h1,h2,decide_eq_true (show r.h.ac.length <=(hwV (mJ l) h).length+4 by omega),Bool.true_and,Bool.true_and,Bool.true_and,wrap_i64 (by omega) (by omega)]
   congr 1
   rw[Bool.eq_iff_iff]
   simp only[dTx]
   omega
 · obtain⟨rfl,hj2⟩:=hj
   rw[wrap_i64 (by omega) (by omega),dFx]at h3
   refine⟨?_,fin hq⟩
   unfold xd
   rw[h1,h2,decide_eq_false (show ¬ r.h.ac.length <=(hwV (mJ l) h).length+4 by omega)];rfl
section
variable {ts:List Txt} (hp:ts.Pairwise (· < ·)) (htl:ts.length <=511) {h d:Hst} (oh:h.ok) (od:d.ok) (kd:kB ts d=true)
include hp htl oh od kd
theorem EF:(cD ts d).length <=127:=by
 unfold cD
 rw[List.length_map]
 refine tw od ((mE od).1 ((Em hp d).1 kd).1)
theorem IY:(ja (chD (ts.length+1) (cD ts d) 0) (hwV ts h)=true ↔ cD ts h=cD ts d):=by
 have hl:=EF hp htl oh od kd
 have hc:=Ey htl od hl
 have hK:(chD (ts.length+1) (cD ts d) 0).K=ts.length+1:=by simp[DA.K,chD]
 rw[uj,tr hc.ok,hc.lang,hK]
 unfold Bo
 rw[if_pos rfl]
 exact⟨λh=>h.2,λh2=>⟨kN ts h,h2⟩⟩
theorem IX (k1:d.kind=1)(b:Bool):(ja (tB ts d b) (hwV ts h)=true ↔ Bo (if b=true then 1 else 2) (cD ts d) (cD ts h)):=by
 have hl:=EF hp htl oh od kd
 have hc:=Jf htl od hl k1 b
 have hK:(tB ts d b).K=ts.length+1:=by unfold DA.K;rw[LL];omega
 rw[uj,tr hc.ok,hc.lang,hK]
 exact⟨λh=>h.2,λh2=>⟨kN ts h,h2⟩⟩
theorem CC (rh:aV h=true):ja (chD (ts.length+1) (cD ts d) 0) (hwV ts h)=lx h d:=by
 rw[Bool.eq_iff_iff,IY hp htl oh od kd,cC oh od,<- Hb hp oh od rh ((Em hp d).1 kd)]
 unfold Bo
 rw[if_pos rfl]
theorem CB (rh:aV h=true):ja (tB ts d true) (hwV ts h)=E3 h d:=by
 by_cases k1:d.kind=1
 · rw[Bool.eq_iff_iff,IX hp htl oh od kd k1,<- E4 hp oh od rh ((Em hp d).1 kd) k1]
   rw[if_pos rfl]
 · rw[(DY k1).1,CC hp htl oh od kd rh,Bool.eq_iff_iff,cC oh od,Db oh od rh ((mE od).1 ((Em hp d).1 kd).1) k1]
end
theorem zS {s:Txt}(hl:s.length <=65534):(dy s).Ok/\(dy s).k=92/\(dy s).st <=1/\(dy s).ac.length <=s.length+2:=by
 by_cases h:jf s=true
 · have hc:=nj h hl
   have hn:=hc.n
   rw[wi]at hn
   have e:dy s=chD 92 (pw s) (((pw s).length+1:Nat):Int):=by unfold dy;rw[if_pos h]
   refine⟨hc.ok,by rw[e];rfl,by rw[e];exact Int.le_refl _,?_⟩
   have:(dy s).ac.length=s.length+2+1/2:=hn
   omega
 · have e:dy s=noD 92:=by unfold dy;rw[if_neg h]
   rw[e]
   exact⟨Ew (by omega) (by omega),rfl,by decide,by show 1 <=s.length+2;omega⟩
theorem nQ {o:Txt}(hl:o.length <=60000):(cj o).Ok/\(cj o).k=92/\(cj o).ac.length <=o.length+4:=by
 unfold cj
 by_cases h0:o=[]
 · rw[if_pos h0]
   obtain⟨h1,h2,_,h4⟩:=zS (s:=[47]) (by decide)
   exact⟨h1,h2,by have:([47]:Txt).length=1:=rfl;omega⟩
 rw[if_neg h0]
 by_cases h1:o.head?≠some 47
 · rw[if_pos h1]
   exact⟨Ew (by omega) (by omega),rfl,by show 1 <=o.length+4;omega⟩
 rw[if_neg h1]
 by_cases h2:o.getLast?=some 47
 · rw[if_pos h2]
   obtain⟨h1,h2,_,h4⟩:=zS (s:=o) (by omega)
   exact⟨h1,h2,by omega⟩
 rw[if_neg h2]
 by_cases h3:jf o=true
 · rw[if_pos h3]
   have hl1:(o++[47]).length=o.length+1:=by simp
   obtain⟨q1,q2,_,q4⟩:=zS (s:=o++[47]) (by omega)
   have e:dy (o++[47])=chD 92 (pw (o++[47])) (((pw (o++[47])).length+1:Nat):Int):=by unfold dy;rw[if_pos (nH h3)]
   have est:(dy (o++[47])).st=1:=by rw[e];rfl
   have:=Lc q1 (o.length+1)
   rw[q2,est]at this
   refine⟨this,rfl,?_⟩
   show((dy (o++[47])).ac.set (o.length+1) true).length <=o.length+4
   rw[List.length_set];omega
 · rw[if_neg h3]
   exact⟨Ew (by omega) (by omega),rfl,by show 1 <=o.length+4;omega⟩
theorem DF {o p:Txt}(hp:kV p=true)(hl:o.length <=60000):ja (cj o) (rI p)=sL p o:=by
 rw[vJ (oX hp).1,Bool.eq_iff_iff,tr (nQ hl).1,qA hp hl]
theorem C8 (s x:Int)(hs:0 <=s/\s <=3)(hx:0 <=x/\x <=2):(if x=0 then true else if x=1 then s !=3 else s==1)=yY s x:=by
 unfold yY
 have h:x=0\/x=1\/x=2:=by omega
 rcases h with rfl|rfl|rfl <;> rfl
theorem ID {ts:List Txt}(hp:ts.Pairwise (· < ·))(htl:ts.length <=511){c:Cky}{q:Req}(oc:c.ok)(oq:q.ok)(kd:kB ts c.host=true)(hs:0 <=c.same/\c.same <=3)(hl:c.path.length <=60000)(now:Int):
   hasB ts (ofR ts c now) q=Df c q now:=by
 unfold hasB Df
 cases hq:Bp q with
 | false=>rfl
 | true=>
   rw[Bool.true_and,Bool.true_and]
   unfold Bp at hq
   simp only[Bool.and_eq_true,dTx]at hq
   obtain⟨rh,pb,x0,x2⟩:=hq
   have rd:aV c.host=true:=vW oc kd
   have t1:ja (ofR ts c now).p (rI q.path)=sL q.path c.path:=DF pb hl
   have t2:ja (ofR ts c now).h (hwV ts q.host)=(!(c.only && !lx c.host q.host)&&E3 q.host c.host):=by
     show ja (H5 ts c.host c.only) (hwV ts q.host)=_
     unfold H5
     cases ho:c.only with
     | true=>
       rw[if_pos rfl,CC hp htl oq oc kd rh]
       cases he:lx q.host c.host with
       | true=>
         have e:=(cC oq oc).1 he
         rw[<- e]
         have:lx q.host q.host=true:=(cC oq oq).2 rfl
         unfold E3
         rw[this,rh];rfl
       | false=>
         have:lx c.host q.host=false:=by
           rw[Bool.eq_false_iff]
           intro h
           rw[(cC oc oq).1 h,(cC oq oq).2 rfl]at he
           cases he
         rw[this];rfl
     | false=>
       rw[if_neg (by decide),CB hp htl oq oc kd rh]
       rfl
   rw[t1,t2]
   unfold AZ
   rw[<- C8 c.same q.cross hs ⟨x0,x2⟩]
   have hx:q.cross=0\/q.cross=1\/q.cross=2:=by omega
   show((if q.sec=true then decide (now<c.exp)else decide (now<c.exp) && !c.sec)&&((if q.cross=0 then decide (now<c.exp)else if q.cross=1 then decide (now<c.exp)&&(c.same !=3)else decide (now<c.exp)&&(c.same==1))&&_))=_
   have hlive:decide (now<c.exp)= !decide (now >=c.exp):=by
     rw[Bool.eq_iff_iff];simp
   rw[hlive]
   generalize decide (now >=c.exp)=L
   generalize (!(c.only && !lx c.host q.host))=O
   generalize E3 q.host c.host=D
   generalize sL q.path c.path=P
   generalize (c.same !=3)=S3
   generalize (c.same==1)=S1
   generalize c.sec=Z
   generalize q.sec=Y
   rcases hx with h|h|h <;> rw[h] <;> revert L O D P S3 S1 Z Y <;> decide
theorem rD (a:Option Addr)(b c:Nat)(d e:Value){w K}(h:nA w (.cells (Value.cells d) bt) λf g=>nA g (.cells (Value.cells e) ax) λi j=>uB eM #[] j λk l=>ae (!k) (K (.bool false) l) (∃m:FP [],(true/\true/\∃n,Ld aq (vA f 3) l (vS n)/\true/\∃o,Ld aq (vA f 21) l (vS o)/\true/\true/\∃p,Ld aq (vA i 2) l (vS p)/\true/\∃q,Ld aq (vA i 19) l (vS q)/\nA l (.cells #[vS n,vS o,vS p,vS q] aq) λr s=>uB lZ #[.slice a b c,.slice (vA r 0) 4 4] s λt u=>ae t (K (.bool true) u) (true/\∃v,Ld ay (vA f 24) u (vI v)/\ae (decide (v<(0:Int))) (K (.bool true) u) (true/\∃x,Ld ay (vA f 24) u (vI x)/\ae (decide (x>(3:Int))) (K (.bool true) u) (m u))))/\aE 24 (∀n,m n->uP kF #[.slice a b c] n λo p=>∃q,Ld bt (vA f 0) p q/\true/\∃r,Ld lO (vA f 26) p (vI r)/\Cf mr #[.pointer o,q,vI r] p λs t=>∃u v,s=rT #[u,vI v]/\nA t (.cells fA ar) λx y=>∃z,Sv ar (vA x 0) u y z/\true/\∃A,Ld ah (vA f 2) z A/\uB mp #[.slice a b c,A] z λB C=>ae (!B) (ae (v==(181:Int)) (∃D,Ld ar (vA x 0) C D/\uB nt #[D] C λE F=>K (.bool E) F) (K (.bool false) C)) (ae (v==(0:Int)) (true/\true/\∃D,(∀E,bW C E->Ld ar (vA x 0) E D)/\∃E,(∀F,bW C F->Ld ah (vA f 2) F E)/\∃F,(∀G,bW C G->Ld aq (vA f 21) G (vS F))/\∃G,(∀H,bW C H->Cf ma #[.slice a b c,D,E,vS F] H λI J=>I=.returned (.bool G)/\bW H J)/\ae G (true/\∃H,(∀I,bW C I->Ld ar (vA x 0) I H)/\∃I,(∀J,bW C J->Ld ax (vA i 0) J I)/\∃J,(∀L,bW C L->Cf nz #[.pointer o,H,I] L λM N=>M=.returned (.bool J)/\bW L N)/\∃L,(∀M,bW C M->Ld bt (vA f 0) M L)/\∃M,(∀N,bW C N->Ld ax (vA i 0) N M)/\∃N,(∀O,bW C O->Ld lO (vA f 26) O (vI N))/\∃O,(∀P,bW C P->Cf ny #[L,M,vI N] P λQ R=>Q=.returned (.bool O)/\bW P R)/\∀P,bW C P->K (.bool (J==O)) P) (∀H,bW C H->K (.bool false) H)) (∀D,bW C D->K (.bool false) D))))):Cf jd #[.slice a b c,d,e] w (Ret K):=ru func6 [(10,[]),(1000031,[]),(3000031,[(0,.one .bool),(1,.one .bool),(2,.one .bool),(3,.one .bool),(5,.one .bool),(7,.one .bool),(4,.one .bool),(6,.one .bool),(8,.one .bool),(9,.one .bool),(10,.one .bool),(11,.one .bool),(12,.one .bool),(18,.one .bool),(13,.one .bool),(14,.one .bool),(15,.one .bool),(16,.one .bool),(17,.one .bool),(19,.one .bool),(20,.one .bool),(21,.one .bool),(22,.one .bool),(23,.one .bool)])] h
theorem Fc {l ts:List Txt}(h:qx l ts=false):(∀x∈l,x.length <=70)/\(∀g∈ts,g.length <=300)/\l.length <=16:=by
 unfold qx at h
 rw[Bool.or_eq_false_iff,Bool.or_eq_false_iff]at h
 obtain⟨h1,h2,h3⟩:=h
 refine⟨λx hx=>?_,λg hg=>?_,by simpa using h3⟩
 · have:=List.any_eq_false.1 h1 x hx
   simpa using this
 · have:=List.any_eq_false.1 h2 g hg
   simpa using this
theorem I1 {ts:List Txt}(htl:ts.length <=511){c:Cky}(oc:c.ok)(kd:kB ts c.host=true)(hl:c.path.length <=60000)(now:Int):xd ts (ofR ts c now) c.host c.path=true:=by
 have hl2:=xK ts oc kd
 have hm:=nQ hl
 have hlen:(hwV ts c.host).length=(cD ts c.host).length:=by rw[uj,List.length_map]
 have hs:(H5 ts c.host c.only).Ok/\(H5 ts c.host c.only).ac.length <=(cD ts c.host).length+4:=by
   unfold H5
   by_cases h:c.only=true
   · rw[if_pos h]
     have:=Ey htl oc hl2
     have hn:(chD (ts.length+1) (cD ts c.host) 0).ac.length=(cD ts c.host).length+2+0/2:=this.n
     exact⟨this.ok,by omega⟩
   · rw[if_neg h]
     have:=KT htl oc hl2 true
     have hn:(tB ts c.host true).ac.length <=(cD ts c.host).length+3:=this.2
     exact⟨this.1,by omega⟩
 unfold xd
 show(okD (H5 ts c.host c.only)&&(okD (cj c.path)&&(decide ((H5 ts c.host c.only).ac.length <=(hwV ts c.host).length+4)&&decide ((cj c.path).ac.length <=c.path.length+4))))=true
 rw[fG.2 hs.1,fG.2 hm.1,decide_eq_true (by omega),decide_eq_true hm.2.2];rfl
set_option maxHeartbeats 1000000 in
theorem zJ (halive:∀(w:World),Env w->Cf eM #[] w (Ret λv w'=>v=.bool true/\bW w w'))
   {w:World} (he:Env w) {a:Option Addr} {n c:Nat} {l:List Txt} (hs:Sl tS w iv a n c l) {k:Cky} (ok:k.ok) {q:Req} (oq:q.ok):
   Cf jd #[.slice a n c,k.v,q.v] w (Ret λv w'=>v=.bool true/\bW w w'):=by
 apply rD
 intro k4 w4 hk4 hw4 k5 w5 hk5 hw5
 have b4:=(hw4▸af w _:bW w w4)
 have b5:=(hw5▸af w4 _:bW w4 w5)
 have A4:ak w4 k4 bt k.cells:=ak.new hk4 hw4
 have A5:ak w5 k5 ax q.cells:=ak.new hk5 hw5
 have B5:=ab b4 b5 b4.size
 refine av (halive w5 (he.step B5)) ?_
 rintro _ w10 ⟨rfl,b10⟩
 have B10:=ab B5 b10 B5.size
 have A4x:=(A4.below b5).below b10
 have A5x:=A5.below b10
 refine⟨true,rfl,ae.no rfl ⟨λW=>bW w10 W/\qx l [k.host.name,k.path,q.host.name,q.path]=false/\0 <=k.same/\k.same <=3,⟨rfl,rfl,k.host.name,A4x.load1 aB rfl (i:=3) ((qQ ok (j:=1) (by decide)).trans rfl),rfl,k.path,A4x.load1 aB rfl (i:=21) (cY ok 1),rfl,rfl,q.host.name,A5x.load1 aB rfl (i:=2) ((rA oq (j:=1) (by decide)).trans rfl),rfl,q.path,A5x.load1 aB rfl (i:=19) (hU oq 0),?_⟩,aE.of ?_ _⟩⟩
 · intro k23 w23 hk23 hw23
   have b23:=(hw23▸af w10 _:bW w10 w23)
   have B23:=ab B10 b23 B10.size
   have O:Ow tS aq w23 NoB (some ⟨k23,0,none⟩) 4 4 [k.host.name,k.path,q.host.name,q.path]:=
     Ow.newF (l:=[vS k.host.name,vS k.path,vS q.host.name,vS q.path]) (T:=tS) (gZ _) hk23 hw23 (gu (e:=λs=>vS s) (h1:=λ_=>rfl) (p:=λ_=>True) (xs:=[k.host.name,k.path,q.host.name,q.path]) (λ_ _=>trivial)) (show 4 <=maxLen by decide)
   refine av (xZ (hs.below B23) O.all) ?_
   rintro _ w24 ⟨rfl,hw24⟩
   rw[hw24];clear hw24 w24
   have A4y:=A4x.below b23
   refine⟨_,rfl,ae.of (λ_=>⟨rfl,B23⟩) (λhg=>⟨rfl,_,A4y.load1 aI rfl (i:=24) (cY ok 4),ae.of (λ_=>⟨rfl,B23⟩) (λh1=>⟨rfl,_,A4y.load1 aI rfl (i:=24) (cY ok 4),ae.of (λ_=>⟨rfl,B23⟩) (λh2=>⟨b23,hg,?_,?_⟩)⟩)⟩)⟩
   · have:=of_decide_eq_false h1;omega
   · have:=of_decide_eq_false h2;omega
 rintro wj ⟨bj,hg,h0,h3⟩
 obtain⟨hlx,hgx,hll⟩:=Fc hg
 have g1:=hgx k.host.name (by simp)
 have g2:=hgx k.path (by simp)
 have g3:=hgx q.host.name (by simp)
 have g4:=hgx q.path (by simp)
 have Bj:=ab B10 bj B10.size
 refine av (rH a n c l (by omega) wj (hs.below Bj)) ?_
 rintro _ w36 ⟨p,rfl,hA,b36⟩
 have B36:=ab Bj b36 Bj.size
 have b36':=ab bj b36 bj.size
 obtain⟨ts,hts⟩:∃ts,ts=mJ l:=⟨_,rfl⟩
 rw[<- hts]at hA
 have hp:ts.Pairwise (· < ·):=by rw[hts];exact xb l
 have htl:ts.length <=16:=by rw[hts];exact Nat.le_trans (EE l) hll
 have A4z:=A4x.below b36'
 refine⟨p,rfl,_,xJ.load0 A4z (Cky.len ok),rfl,_,A4z.load1 kH rfl (i:=26) (cY ok 6),?_⟩
 refine av (tQ ok (by omega) (by omega) (he.step B36) hA (by omega) k.born) ?_
 rintro v w42 ⟨b42,hv⟩
 have B42:=ab B36 b42 B36.size
 obtain⟨r,x,y,er,rfl,hcase⟩:∃(r:Rgn) (x y:Rgp) (er:Int),v=.tuple #[r.v x y,vI er]/\(kB ts k.host=true/\er=0/\r=ofR ts k k.born/\RgS w42 r x y\/kB ts k.host=false/\er=181/\r=rg0/\x=rp0/\y=rp0):=by
   cases hk:kB ts k.host with
   | true=>
     rw[if_pos hk]at hv
     obtain⟨x,y,rfl,hS⟩:=hv
     exact⟨_,x,y,0,rfl,.inl ⟨rfl,rfl,rfl,hS⟩⟩
   | false=>
     rw[if_neg (by rw[hk];decide)]at hv
     exact⟨rg0,rp0,rp0,181,hv,.inr ⟨rfl,rfl,rfl,rfl,rfl⟩⟩
 refine⟨_,_,rfl,?_⟩
 intro k8 w8 hk8 hw8
 have b8:=(hw8▸af w42 _:bW w42 w8)
 have A8:ak w8 k8 ar (rg0.cells rp0 rp0):=ak.new hk8 hw8
 obtain⟨wx,q1,v1,gr1⟩:=bH.store0 (P:=prog) (cs:=r.cells x y) rfl (Rgn.one _ _ _) A8 rfl
 have bx:bW w42 wx:=Below.put b8 gr1 (by omega)
 have Bx:=ab B42 bx B42.size
 have b36x:=ab b42 bx b42.size
 have A4v:=A4z.below b36x
 have A5v:=(A5x.below b36').below b36x
 refine⟨wx,q1,rfl,_,aL.load A4v (i:=2) (us:=k.host.cells) (Hst.len ok) (λj hj=>qQ ok hj),?_⟩
 refine av (yk (by omega) (λz hz=>by have:=hlx z hz;omega) ok (by omega) (hs.below Bx)) ?_
 rintro _ w48 ⟨rfl,b48⟩
 have B48:=ab Bx b48 Bx.size
 rw[<- hts]
 rcases hcase with⟨hk,rfl,rfl,hS⟩|⟨hk,rfl,rfl,rfl,rfl⟩
 · rw[hk]
   have v8:=v1.below b48
   have A4u:=A4v.below b48
   have A5u:=A5v.below b48
   have hS8:=(hS.below bx).below b48
   have hA8:=(hA.below b36x).below b48
   refine⟨_,rfl,ae.no rfl (ae.yes rfl ⟨rfl,rfl,_,λu hu=>bH.load0 (v8.below hu) rfl,_,λu hu=>aL.load (A4u.below hu) (i:=2) (us:=k.host.cells) (Hst.len ok) (λj hj=>qQ ok hj),k.path,λu hu=>(A4u.below hu).load1 aB rfl (i:=21) (cY ok 1),true,λu hu=>?_,ae.yes rfl ⟨rfl,_,λu hu=>bH.load0 (v8.below hu) rfl,_,λu hu=>dW.load0 (A5u.below hu) (Req.len oq),Df k q k.born,λu hu=>?_,_,λu hu=>xJ.load0 (A4u.below hu) (Cky.len ok),_,λu hu=>dW.load0 (A5u.below hu) (Req.len oq),k.born,λu hu=>(A4u.below hu).load1 kH rfl (i:=26) (cY ok 6),Df k q k.born,λu hu=>?_,λwq hq=>⟨by rw[beq_self_eq_true],ab B48 hq B48.size⟩⟩⟩)⟩
   · have h:=ya (hs.below (ab B48 hu B48.size)) (by omega) (λz hz=>by have:=hlx z hz;omega) (hS8.below hu) ok (by omega) k.path (by omega)
     rw[<- hts,I1 (by omega) ok hk (by omega)]at h
     exact Co h
   · have h:=AL oq (by omega) (by omega) (he.step (ab B48 hu B48.size)) (hA8.below hu) (hS8.below hu)
     rw[ID hp (by omega) ok oq hk ⟨h0,h3⟩ (by omega)]at h
     exact Co h
   · exact Co (AK ok oq (by omega) (by omega) (by omega) (by omega) k.born u)
 · rw[hk]
   refine⟨_,rfl,ae.yes rfl (ae.yes rfl ⟨_,bH.load0 (v1.below b48) rfl,?_⟩)⟩
   refine av (Aq w48) ?_
   rintro _ w54 ⟨rfl,b54⟩
   exact⟨_,rfl,rfl,ab B48 b54 B48.size⟩
def xpR:List Txt:=[[99,111,109],[104]]
theorem J0:mJ [[104],[99,111,109]]=xpR:=Jn (xb _) (by decide) λx=>by
 rw[Eu];unfold xpR;simp only[List.mem_cons,List.not_mem_nil,or_false];exact Or.comm
theorem Jh:cS (hwn [104,46,99,111,109])=[[99,111,109],[104]]:=
 (pr (L:=[[104],[99,111,109]]) (by rw[Lib.join_cons];rfl) (by simp) (by decide) (by decide) (by decide)).2
theorem Gz:aV (hwn [104,46,99,111,109])=true:=
 (pr (L:=[[104],[99,111,109]]) (by rw[Lib.join_cons];rfl) (by simp) (by decide) (by decide) (by decide)).1
theorem zY:kV [47,97]=true:=by decide
def Dc:Hst:=hwn [104,46,99,111,109]
theorem Gx:hwV xpR Dc=[0,1]:=by
 unfold hwV Dc
 rw[Jh]
 decide
theorem K3:kB xpR Dc=true:=by
 unfold kB
 rw[Gx]
 decide
theorem vu:cD xpR Dc=[0,1]:=by
 have h:=Gx
 rw[uj]at h
 have:=congrArg (List.map Int.toNat) h
 rw[List.map_map]at this
 have e:(Int.toNat ∘ fun(x:Nat)=>(x:Int))=id:=funext λx=>Int.toNat_natCast x
 rw[e,List.map_id]at this
 exact this
def Ea:Cky:=⟨[],[],Dc,true,[47,97],false,false,0,1,0,0,0⟩
theorem E6 (w:World):(Instr.build bt #[(2,Dc.v),(3,.bool true),(4,vS [47,97]),(8,vI 1)]).run prog w=.ok Ea.v w:=by kernel_rfl
def HX:Req:=⟨false,Dc,[47,97],0⟩
theorem E7 (w:World):(Instr.build ax #[(1,Dc.v),(2,vS [47,97])]).run prog w=.ok HX.v w:=by kernel_rfl
theorem Ix:(ofR xpR Ea 0).h=chD 3 [0,1] 0:=by
 show chD (xpR.length+1) (cD xpR Dc) 0=_
 rw[vu];rfl
theorem D8:ue (ofR xpR Ea 0).h [0,1] 0:=by
 have h:=Ey (ts:=xpR) (by decide) (h:=Dc) rfl (by rw[vu];decide)
 rw[vu]at h
 rw[Ix];exact h
theorem K2:hB xpR (ofR xpR Ea 0).h=true:=by
 unfold hB
 rw[fG.2 D8.ok,Ix];rfl
theorem K4:pB (ofR xpR Ea 0).p=true:=by
 have h:=nQ (o:=[47,97]) (by decide)
 unfold pB
 show(okD (cj [47,97])&&decide ((cj [47,97]).k=92))=true
 rw[fG.2 h.1,h.2.1];rfl
theorem Iv:Few (ofR xpR Ea 0).h (xQ xpR):=by
 refine GA D8.ok (F2 (by decide)) (by rw[Ix];rfl) ?_
 have h1:=D8.n
 have h2:(xQ xpR).n=4:=rfl
 rw[h1,h2];decide
theorem Iw:Few (ofR xpR Ea 0).p (dy [47]):=by
 have h:=nQ (o:=[47,97]) (by decide)
 have h2:=zS (s:=[47]) (by decide)
 refine GA (a:=cj [47,97]) h.1 h2.1 (by rw[h.2.1,h2.2.1]) ?_
 have h3:(cj [47,97]).n <=6:=h.2.2
 have h4:(dy [47]).n <=3:=h2.2.2.2
 have:=Nat.mul_le_mul h3 h4
 omega
theorem K5:[0,1].map (tx xpR)=[[99,111,109],[104]]:=by decide
theorem D9:cN ([0,1].map (tx xpR))=some Dc/\kU ([0,1].map (tx xpR)):=by
 rw[K5]
 have h:=Dj (h:=Dc) rfl Gz
 have e:cS Dc=[[99,111,109],[104]]:=Jh
 rwa [e]at h
theorem Gv {L:List Nat->Prop}(hL:∀v,L v ↔ v=[0,1]){r:Option Hst}(hr:yS xpR L r):r=some Dc:=by
 cases r with
 | none=>
   have h1:=hr [0,1] ((hL _).2 rfl) D9.2
   have e0:dz (gJ xpR) [0,1]=6:=by decide
   omega
 | some g=>
   obtain⟨v,h1,_,h3⟩:=hr
   have e:=(hL v).1 h1.1.1
   subst e
   rw[<- h3,D9.1]
theorem Gw (v:List Nat):(ofR xpR Ea 0).h.Lang (ofR xpR Ea 0).h.s v ↔ v=[0,1]:=by
 have hK:(ofR xpR Ea 0).h.K=3:=by rw[Ix];rfl
 rw[D8.lang v,hK]
 unfold Bo
 rw[if_pos rfl]
 exact⟨λh=>h.2,λh=>⟨by rw[h];decide,h⟩⟩
theorem Gy:sL [47,97] [47,97]=true:=by decide
theorem E5 {r:Option (List UInt8)}(h:jJ ((cj [47,97]).Lang (cj [47,97]).s) r):r=some [47,97]:=by
 have hK:(cj [47,97]).K=92:=by unfold DA.K;rw[(nQ (o:=[47,97]) (by decide)).2.1];rfl
 have hL:∀v,(cj [47,97]).Lang (cj [47,97]).s v->∀x∈v,x<92:=λv hv x hx=>by have:=hv.1 x hx;omega
 have h0:=(qA (o:=[47,97]) zY (by decide)).2 Gy
 cases r with
 | none=>exact absurd h0 (Hf hL h zY)
 | some p=>
   obtain⟨h1,h2,h3⟩:=Fw hL h
   have h4:=(qA h1 (by decide)).1 h2
   have h5:=h3 [47,97] zY h0
   unfold sL at h4
   rw[Bool.or_eq_true,beq_iff_eq,Bool.and_eq_true,dTx]at h4
   rcases h4 with h4|h4
   · rw[h4]
   · have:=h4.1
     simp only[List.length_cons,List.length_nil]at this h5
     omega
theorem J2:FM (ofR xpR Ea 0) (some Dc) (some [47,97])=some HX:=rfl
def IU (r q:Req):Bool:=(r.sec==q.sec)&&(lx r.host q.host&&((r.path==q.path)&&((r.cross==q.cross)&&true)))
theorem Hk {u v:Req}(o:u.ok)(p:v.ok):IU u v=true ↔ u=v:=by
 unfold IU
 simp only[Bool.and_eq_true,beq_iff_eq,and_true,cC o p]
 cases u;cases v;simp
theorem JZ {c d:Req}(o:c.ok)(p:d.ok):eqV prog 10000 ax c.v d.v=some (IU c d):=by
 obtain⟨d1,⟨e1,e2,e3⟩,d2,d3⟩:=c
 obtain⟨d1',⟨e1',e2',e3'⟩,d2',d3'⟩:=d
 obtain⟨x0,x1,x2,x3,x4,x5,x6,x7,x8,x9,x10,x11,x12,x13,x14,x15,rfl⟩:=zf e3 o
 obtain⟨y0,y1,y2,y3,y4,y5,y6,y7,y8,y9,y10,y11,y12,y13,y14,y15,rfl⟩:=zf e3' p
 kernel_rfl
theorem GI:prog.eqGuardType prog.depth ax=false:=by kernel_rfl
theorem Li {c d:Req}(o:c.ok)(p:d.ok){x y:Operand}(w:World):((do eqGuard .eql ax x y c.v d.v;binOp .eql ax c.v d.v:Sem Value)).run prog w=.ok (.bool (IU c d)) w:=
 Cu GI (JZ o p) w
set_option maxHeartbeats 1000000 in
theorem ym {w:World}(he:Env w):Cf eM #[] w (Ret λv w'=>v=.bool true/\bW w w'):=by
 apply nY
 intro k7 w7 hk7 hw7
 have b7:=(hw7▸af w _:bW w w7)
 have O:Ow tS aq w7 NoB (some ⟨k7,0,none⟩) 2 2 [[104],[99,111,109]]:=
   Ow.newF (l:=[vS [104],vS [99,111,109]]) (T:=tS) (gZ _) hk7 hw7 (gu (e:=λs=>vS s) (h1:=λ_=>rfl) (p:=λ_=>True) (xs:=[[104],[99,111,109]]) (λ_ _=>trivial)) (show 2 <=maxLen by decide)
 refine av (rH _ 2 2 [[104],[99,111,109]] (by decide) w7 O.all) ?_
 rintro _ w8 ⟨p,rfl,hA,b8⟩
 rw[J0]at hA
 have B8:=ab b7 b8 b7.size
 refine⟨p,rfl,?_⟩
 refine av (rj [104,46,99,111,109] w8) ?_
 rintro _ w11 ⟨rfl,b11⟩
 have B11:=ab B8 b11 B8.size
 refine⟨_,rfl,_,E6 w11,?_⟩
 refine av (tQ (c:=Ea) rfl (by decide) (by decide) (he.step B11) (hA.below b11) (by decide) 0) ?_
 rintro v w13 ⟨b13,hv⟩
 rw[if_pos (show kB xpR Ea.host=true from K3)]at hv
 obtain⟨x,y,rfl,hS⟩:=hv
 have B13:=ab B11 b13 B11.size
 refine⟨_,0,rfl,?_⟩
 intro k2 w2 hk2 hw2
 have b2:=(hw2▸af w13 _:bW w13 w2)
 have A2:ak w2 k2 ar (rg0.cells rp0 rp0):=ak.new hk2 hw2
 obtain⟨wx,q1,v1,g1⟩:=bH.store0 (P:=prog) (cs:=(ofR xpR Ea 0).cells x y) rfl (Rgn.one _ _ _) A2 rfl
 have bx:bW w13 wx:=Below.put b2 g1 (by omega)
 have Bx:=ab B13 bx B13.size
 refine⟨wx,q1,_,bH.load0 v1 rfl,?_⟩
 refine av (sM (he.step Bx) (((hA.below b11).below b13).below bx) (by decide) (by decide) (hS.below bx) K2 K4 Iv Iw) ?_
 rintro v w19 ⟨b19,rh,rp,hL,hok,hP,rfl⟩
 have B19:=ab Bx b19 Bx.size
 obtain rfl:=Gv Gw hL
 obtain rfl:=E5 hP
 rw[J2]
 refine⟨HX.v,true,0,rfl,?_⟩
 intro k4 w4 hk4 hw4
 have b4:=(hw4▸af w19 _:bW w19 w4)
 have A4:ak w4 k4 ax LA.cells:=ak.new hk4 hw4
 obtain⟨wy,q2,v2,g2⟩:=dW.store0 (P:=prog) (cs:=HX.cells) (Req.len (r:=HX) rfl) (Req.one _) A4 rfl
 have by_:bW w19 wy:=Below.put b4 g2 (by omega)
 have By:=ab B19 by_ B19.size
 refine⟨wy,q2,ae.yes rfl (ae.yes rfl (ae.yes rfl ⟨_,λu hu=>dW.load0 (v2.below hu) (Req.len (r:=HX) rfl),_,λu hu=>j3 (rj [104,46,99,111,109] u) hu,_,λu hu=>E7 u,_,λu hu=>Li (c:=HX) (d:=HX) rfl rfl u,λwq hq=>⟨?_,ab By hq By.size⟩⟩))⟩
 rw[(Hk (u:=HX) (v:=HX) rfl rfl).2 rfl]
theorem CR {w:World}(he:Env w){a:Option Addr}{n c:Nat}{l:List Txt}(hs:Sl tS w iv a n c l){k:Cky}(ok:k.ok){q:Req}(oq:q.ok):
   Cf jd #[.slice a n c,k.v,q.v] w (Ret λv w'=>v=.bool true/\bW w w'):=
 zJ (λw he=>ym he) he hs ok oq
section
open Go.ChangeShapes Go.WideShapes
theorem vz {H:Type}{enc:TypeId×Value->H}{P:Program}{w:World}{fuel:Nat}{t:TypeId}{fs:Array Field}{cs:List Value}{x:DataW H×List MemPlace}(ht:P.underlying t=some (.struct fs))
   (h:DataW.trod enc P w 0 (λ_=>true) true fuel t cs=some x):
   ∃n,cs.length=P.cellsOf t/\∀(i:Nat) (u:TypeId) (o k:Nat),(∃f:Field,fs[i]? =some f/\f.type=u/\f.offset=o)->P.cellsOf u=k->∃y,DataW.trod enc P w 0 (λ_=>true) true n u ((cs.drop o).take k)=some y:=by
 obtain⟨xs,n,_,_,hl,hlen,hf⟩:=DataW.trod_struct ht h
 refine⟨n,hl,?_⟩
 rintro i _ _ _ ⟨f,hi,rfl,rfl⟩ rfl
 have hlt:i<xs.length:=by rw[hlen];exact(Array.getElem?_eq_some_iff.1 hi).1
 exact⟨xs[i],by rw[hf i f hi,List.getElem?_eq_getElem hlt]⟩
theorem ig {α:Type}(cs:List α)(a b:Nat):cs.drop a=(cs.drop a).take b++cs.drop (a+b):=by
 rw[<- List.drop_drop,List.take_append_drop]
theorem Dz {α:Type}(cs:List α)(n:Nat)(h:cs.length=n):cs.drop n=[]:=List.drop_of_length_le (by omega)
theorem Kz {n:Int}(h:(Lit.int .u8 n).wf=true):∃c:UInt8,n=((c.toNat:Nat):Int):=by
 have:=bounds_u8 h
 refine⟨UInt8.ofNat n.toNat,?_⟩
 rw[UInt8.toNat_ofNat',Nat.mod_eq_of_lt (by omega)];omega
theorem FX:∀{zs:List Int},(∀n∈zs,(Lit.int .u8 n).wf=true)->∃a:List UInt8,a.length=zs.length/\(zs.map λn=>Value.int .u8 n)=adC a
 | [],_=>⟨[],rfl,rfl⟩
 | z::zs,h=>by
   obtain⟨c,rfl⟩:=Kz (h z (List.mem_cons_self ..))
   obtain⟨a,ha,hb⟩:=FX (zs:=zs) λn hn=>h n (List.mem_cons_of_mem _ hn)
   exact⟨c::a,by rw[List.length_cons,List.length_cons,ha],by rw[List.map_cons,hb];rfl⟩
end
section
open Go.ChangeShapes Go.WideShapes
theorem zl {H:Type}{enc:TypeId×Value->H}{w:World}{fuel:Nat}{cs:List Value}{x:DataW H×List MemPlace}(h:DataW.trod enc prog w 0 (λ_=>true) true fuel ah cs=some x):∃u:Hst,u.ok/\cs=u.cells:=by
 obtain⟨n,hl,hf⟩:=vz Tryz.underlying34 h
 have hl18:cs.length=18:=hl.trans (by kernel_rfl)
 obtain⟨y0,h0⟩:=hf 0 ay 0 1 ⟨_,rfl,rfl,rfl⟩ (by kernel_rfl)
 obtain⟨y1,h1⟩:=hf 1 aq 1 1 ⟨_,rfl,rfl,rfl⟩ (by kernel_rfl)
 obtain⟨y2,h2⟩:=hf 2 32 2 16 ⟨_,rfl,rfl,rfl⟩ (by kernel_rfl)
 obtain⟨k,e0,_⟩:=i6 aI H enc w n _ _ h0
 obtain⟨s,e1,_⟩:=nT aB H enc w n _ _ h1
 obtain⟨zs,hz,hr⟩:=Hc Tryz.underlying32 (i6 bA) (by kernel_rfl) (by kernel_rfl) h2
 have e2:=ez hr
 obtain⟨a,ha,hb⟩:=FX (EP hr)
 refine⟨⟨k,s,a⟩,ha.trans hz,?_⟩
 have s0:=ig cs 0 1
 have s1:=ig cs 1 1
 have s2:=ig cs 2 16
 rw[e0]at s0
 rw[e1]at s1
 rw[e2,hb,Dz cs (2+16) hl18,List.append_nil]at s2
 rw[List.drop_zero]at s0
 rw[s0,s1,s2];rfl
theorem Ft {H:Type}{enc:TypeId×Value->H}{w:World}{fuel:Nat}{v:Value}{x:DataW H×List MemPlace}(h:DataW.trod enc prog w 0 (λ_=>true) true fuel au [v]=some x):
   ∃(a:Option Addr) (len cap:Nat) (rs:List (List UInt8)),v=.slice a len cap/\Sl tS w iv a len cap rs/\rs.length <=9223372036854775807:=by
 rcases open_strings bF aB (by kernel_rfl) h with⟨e,_⟩|⟨a,len,cap,ss,e,_,hlc,hcm,hm,_,hx,hs⟩
 · obtain rfl:v=_:=by injection e
   exact⟨none,0,0,[],rfl,Sl.nil _ _ _ _ _ (Nat.zero_le _),Nat.zero_le _⟩
 · obtain rfl:v=_:=by injection e
   have hS:=Ht (Hs (.inr ⟨a,rfl,hlc,hcm,by simpa using hm,hx,hs⟩)) (q:=λ_=>True) λ_ _ _=>trivial
   exact⟨some a,len,cap,_,rfl,hS,hS.le⟩
end
section
open Go.ChangeShapes Go.WideShapes
theorem He {H:Type}{enc:TypeId×Value->H}{w:World}{fuel:Nat}{cs:List Value}{x:DataW H×List MemPlace}(h:DataW.trod enc prog w 0 (λ_=>true) true fuel ax cs=some x):∃u:Req,u.ok/\cs=u.cells:=by
 obtain⟨n,hl,hf⟩:=vz Tryz.underlying59 h
 have hl':cs.length=21:=hl.trans (by kernel_rfl)
 obtain⟨y0,h0⟩:=hf 0 bR 0 1 ⟨_,rfl,rfl,rfl⟩ (by kernel_rfl)
 obtain⟨y1,h1⟩:=hf 1 ah 1 18 ⟨_,rfl,rfl,rfl⟩ (by kernel_rfl)
 obtain⟨y2,h2⟩:=hf 2 aq 19 1 ⟨_,rfl,rfl,rfl⟩ (by kernel_rfl)
 obtain⟨y3,h3⟩:=hf 3 ay 20 1 ⟨_,rfl,rfl,rfl⟩ (by kernel_rfl)
 obtain⟨x0,e0,_⟩:=oW di H enc w n _ _ h0
 obtain⟨x1,o1,e1⟩:=zl h1
 obtain⟨x2,e2,_⟩:=nT aB H enc w n _ _ h2
 obtain⟨x3,e3,b3⟩:=i6 aI H enc w n _ _ h3
 refine⟨⟨x0,x1,x2,x3⟩,o1,?_⟩
 have s0:=ig cs 0 1
 have s1:=ig cs 1 18
 have s2:=ig cs 19 1
 have s3:=ig cs 20 1
 rw[e0,List.drop_zero]at s0
 rw[e1]at s1
 rw[e2]at s2
 rw[e3,Dz cs (20+1) hl',List.append_nil]at s3
 rw[s0,s1,s2,s3];rfl
theorem Ck {H:Type}{enc:TypeId×Value->H}{w:World}{fuel:Nat}{cs:List Value}{x:DataW H×List MemPlace}(h:DataW.trod enc prog w 0 (λ_=>true) true fuel bt cs=some x):∃u:Cky,u.ok/\cs=u.cells:=by
 obtain⟨n,hl,hf⟩:=vz Tryz.underlying57 h
 have hl':cs.length=29:=hl.trans (by kernel_rfl)
 obtain⟨y0,h0⟩:=hf 0 aq 0 1 ⟨_,rfl,rfl,rfl⟩ (by kernel_rfl)
 obtain⟨y1,h1⟩:=hf 1 aq 1 1 ⟨_,rfl,rfl,rfl⟩ (by kernel_rfl)
 obtain⟨y2,h2⟩:=hf 2 ah 2 18 ⟨_,rfl,rfl,rfl⟩ (by kernel_rfl)
 obtain⟨y3,h3⟩:=hf 3 bR 20 1 ⟨_,rfl,rfl,rfl⟩ (by kernel_rfl)
 obtain⟨y4,h4⟩:=hf 4 aq 21 1 ⟨_,rfl,rfl,rfl⟩ (by kernel_rfl)
 obtain⟨y5,h5⟩:=hf 5 bR 22 1 ⟨_,rfl,rfl,rfl⟩ (by kernel_rfl)
 obtain⟨y6,h6⟩:=hf 6 bR 23 1 ⟨_,rfl,rfl,rfl⟩ (by kernel_rfl)
 obtain⟨y7,h7⟩:=hf 7 ay 24 1 ⟨_,rfl,rfl,rfl⟩ (by kernel_rfl)
 obtain⟨y8,h8⟩:=hf 8 lO 25 1 ⟨_,rfl,rfl,rfl⟩ (by kernel_rfl)
 obtain⟨y9,h9⟩:=hf 9 lO 26 1 ⟨_,rfl,rfl,rfl⟩ (by kernel_rfl)
 obtain⟨y10,h10⟩:=hf 10 lO 27 1 ⟨_,rfl,rfl,rfl⟩ (by kernel_rfl)
 obtain⟨y11,h11⟩:=hf 11 ay 28 1 ⟨_,rfl,rfl,rfl⟩ (by kernel_rfl)
 obtain⟨x0,e0,_⟩:=nT aB H enc w n _ _ h0
 obtain⟨x1,e1,_⟩:=nT aB H enc w n _ _ h1
 obtain⟨x2,o2,e2⟩:=zl h2
 obtain⟨x3,e3,_⟩:=oW di H enc w n _ _ h3
 obtain⟨x4,e4,_⟩:=nT aB H enc w n _ _ h4
 obtain⟨x5,e5,_⟩:=oW di H enc w n _ _ h5
 obtain⟨x6,e6,_⟩:=oW di H enc w n _ _ h6
 obtain⟨x7,e7,b7⟩:=i6 aI H enc w n _ _ h7
 obtain⟨x8,e8,b8⟩:=i6 kH H enc w n _ _ h8
 obtain⟨x9,e9,b9⟩:=i6 kH H enc w n _ _ h9
 obtain⟨x10,e10,b10⟩:=i6 kH H enc w n _ _ h10
 obtain⟨x11,e11,b11⟩:=i6 aI H enc w n _ _ h11
 refine⟨⟨x0,x1,x2,x3,x4,x5,x6,x7,x8,x9,x10,x11⟩,o2,?_⟩
 have s0:=ig cs 0 1
 have s1:=ig cs 1 1
 have s2:=ig cs 2 18
 have s3:=ig cs 20 1
 have s4:=ig cs 21 1
 have s5:=ig cs 22 1
 have s6:=ig cs 23 1
 have s7:=ig cs 24 1
 have s8:=ig cs 25 1
 have s9:=ig cs 26 1
 have s10:=ig cs 27 1
 have s11:=ig cs 28 1
 rw[e0,List.drop_zero]at s0
 rw[e1]at s1
 rw[e2]at s2
 rw[e3]at s3
 rw[e4]at s4
 rw[e5]at s5
 rw[e6]at s6
 rw[e7]at s7
 rw[e8]at s8
 rw[e9]at s9
 rw[e10]at s10
 rw[e11,Dz cs (28+1) hl',List.append_nil]at s11
 rw[s0,s1,s2,s3,s4,s5,s6,s7,s8,s9,s10,s11];rfl
end
end Go.Pk
