/- What the laws lean on: HosG, PthL, V41, PthC, RegD, HosK, V42, RegE, HosM, RegG, RegP, RegH, V47, RegQ, RegI, RegJ, RegK, EqR, RegL, MapH, KeyI, Sep, Del; what is used. Its conditions: none. -/
import Derived.Test.YtpafoodmpjlkhaaGreatDoorKH
import Derived.Maps.RangeRun
set_option linter.unusedVariables false
set_option linter.unusedSimpArgs false
set_option linter.unusedSectionVars false
set_option maxRecDepth 100000
open Go.IntKind (i64)
open Go.Proofs.Tryz
open List (length)
open Option (isSome)
namespace Go.Pk
open Go.RowKit (Below)
open Go.Proofs
theorem Fe {ts:List Txt}(htl:ts.length <=60):(Bi ts).Ok:=RD (by omega) (by omega)
theorem I6 (ts:List Txt):(Bi ts).k=((ts.length:Int)+1):=by show(((ts.length+1:Nat)):Int)=_;omega
theorem K2 (ts:List Txt)(v:List Nat):(Bi ts).Lang (Bi ts).s v ↔ (∀x∈v,x<ts.length+1)/\ng (v.map (tx ts)):=by
 rw[<- PG]
 exact PE v
theorem Kh {ts:List Txt}(hl:ts.length <=60)(hx:∀t∈ts,t.length <=70):Nk (ku ts) 71:=by
 refine⟨by omega,by omega,λx hx'=>?_⟩
 rw[ra]at hx'
 rw[Cy hx']
 rcases Nat.lt_or_ge x ts.length with h|h
 · rw[MO h]
   have:=hx _ (List.getElem_mem h)
   omega
 · have:x=ts.length:=by omega
   subst this
   rw[Do]
   have:=(iT (rY hl)).2.1
   omega
theorem N1 {ts:List Txt}(htl:ts.length <=60){d e:DA}{ps:List Pr}(hk:d.k=(ts.length:Int)+1)(hI:jr d (Bi ts) (λx y=>x&&y) e ps)(v:List Nat):
   e.Lang e.s v ↔ d.Lang d.s v/\ng (v.map (tx ts)):=by
 have hK:d.K=ts.length+1:=by unfold DA.K;rw[hk];omega
 rw[hI.lang v]
 have h2:=K2 ts v
 unfold DA.Lang at h2 ⊢
 have hK2:(Bi ts).K=ts.length+1:=by unfold DA.K;rw[I6];omega
 rw[hK2]at h2
 rw[hK,Bool.and_eq_true]
 constructor
 · rintro⟨h3,h4,h5⟩
   exact⟨⟨h3,h4⟩,(h2.1 ⟨h3,h5⟩).2⟩
 · rintro⟨⟨h3,h4⟩,h5⟩
   exact⟨h3,h4,(h2.2 ⟨h3,h5⟩).2⟩
def hB (ts:List Txt)(d:DA):Bool:=okD d&&decide (d.k=(ts.length:Int)+1)
def Qv (ts:List Txt)(d:DA)(w:World)(v:Value)(w':World):Prop:=bW w w'/\
 if hB ts d=true then ∃r:Option Hst,oB ts (d.Lang d.s) r/\(∀g,r=some g->g.ok)/\v=.tuple #[(r.getD jf).v,.bool r.isSome,vI 0]else v=.tuple #[jf.v,.bool false,vI 151]
set_option maxHeartbeats 1000000 in
theorem AL {w:World}(he:Env w){p:Option Addr}{ts:List Txt}(hA:gB w p ts)(htl:ts.length <=60)(hx:∀t∈ts,t.length <=70){a b:Option Addr}{n c m e:Nat}{d:DA}(h:DaS w a n c b m e d)(hf:d.Ok->d.k=(ts.length:Int)+1->Few d (Bi ts)):
   Cf oI #[.pointer p,daV a n c b m e d] w (Ret (Qv ts d w)):=by
 apply zN
 intro k3 w3 hk3 hw3 k4 w4 hk4 hw4
 have hx':∀t∈ts,t.length <=1000:=λt ht=>by have:=hx t ht;omega
 have b3:=(hw3▸ah w _:bW w w3)
 have b4:=(hw4▸ah w3 _:bW w3 w4)
 have A3:am w3 k3 af (daL a n c b m e d):=am.new hk3 hw3
 have A4:am w4 k4 ai jf.cells:=am.new hk4 hw4
 have B4:=ab b3 b4 b3.size
 have s3:=b3.size
 have l4:=A4.lt
 refine ax (AK (he.step B4) (hA.below B4) htl hx') ?_
 rintro _ w17 ⟨a1,n1,c1,b1,m1,e1,rfl,O,b17⟩
 have B17:=ab B4 b17 B4.size
 refine⟨_,_,a1,n1,c1,b1,m1,e1,_,rfl,?_⟩
 intro k7 w7 hk7 hw7
 have b7:=(hw7▸ah w17 _:bW w17 w7)
 have A7:am w7 k7 af [vI 0,vI 0,.slice none 0 0,.slice none 0 0]:=am.new hk7 hw7
 obtain⟨wx,q1,v1,g1⟩:=bG.store0 (P:=prog) (cs:=daL a1 n1 c1 b1 m1 e1 (Bi ts)) rfl (fM _ _ _ _ _ _ _) A7 rfl
 have bx:bW w17 wx:=Below.put b7 g1 (by omega)
 have Bx:=ab B17 bx B17.size
 have b4x:=ab b17 bx b17.size
 refine⟨wx,q1,ae.no rfl ⟨_,_,a,n,c,b,m,e,bG.load0 (cs:=daL a n c b m e d) ((A3.below b4).below b4x) rfl,_,_,a1,n1,c1,b1,m1,e1,bG.load0 (cs:=daL a1 n1 c1 b1 m1 e1 (Bi ts)) v1 rfl,?_⟩⟩
 have hallK:=I6 ts
 refine ax (wX (h.below Bx) (O.das.below bx) (λh1 _ hk=>hf h1 (by rw[hk,hallK]))) ?_
 intro v w27 hP
 have eb:iG d (Bi ts)=hB ts d:=by
   have e1:(d.k==(Bi ts).k)=decide (d.k=(ts.length:Int)+1):=by rw[hallK,Bool.eq_iff_iff,beq_iff_eq,dTx]
   unfold iG hB
   rw[di.2 (Fe htl),Bool.true_and,e1]
 have A4x:=A4.below b4x
 have back:∀{W:World} {g:Hst} (bb:Bool) (r:Int),g.ok->bW wx W->(∃wy,(Instr.storeAt ai (.pointer (some ⟨k4,0,none⟩)) g.v).run prog W=.ok () wy/\(aR ai (.pointer (some ⟨k4,0,none⟩))).run prog wy=.ok g.v wy/\bW w wy):=by
   intro W g bb r og hb
   obtain⟨wy,r1,r2,r3⟩:=aJ.store0 (P:=prog) (cs:=g.cells) (Hst.len og) (Hst.one _) (A4x.below hb) rfl
   exact⟨wy,r1,am.res (aJ.load0 r2 (Hst.len og)),Below.put (ab Bx hb Bx.size) r3 (by omega)⟩
 cases hhB:hB ts d with
 | false=>
   rw[<- eb]at hhB
   unfold rK at hP
   rw[if_neg (by rw[hhB];simp)]at hP
   obtain⟨rfl,b27⟩:=hP
   refine⟨_,_,none,0,0,none,0,0,_,rfl,?_⟩
   intro k9 w9 hk9 hw9
   have b9:=(hw9▸ah w27 _:bW w27 w9)
   have A9:am w9 k9 af [vI 0,vI 0,.slice none 0 0,.slice none 0 0]:=am.new hk9 hw9
   obtain⟨wy,q2,v2,g2⟩:=bG.store0 (P:=prog) (cs:=daL none 0 0 none 0 0 d0) rfl (fM _ _ _ _ _ _ _) A9 rfl
   have bxy:=ab b27 (Below.put b9 g2 (by omega)) b27.size
   obtain⟨wz,r1,r2,r3⟩:=back (g:=jf) false 151 rfl bxy
   refine⟨wy,q2,ae.yes rfl ⟨wz,r1,_,r2,r3,?_⟩⟩
   rw[if_neg (by rw[<- eb,hhB];simp)]
 | true=>
   have hhB':=hhB
   rw[<- eb]at hhB
   unfold rK at hP
   rw[if_pos hhB]at hP
   obtain⟨dd,ps,hI,a2,n2,c2,b2,m2,e2,rfl,OB,b27⟩:=hP
   unfold hB at hhB'
   rw[Bool.and_eq_true,dTx]at hhB'
   obtain⟨hok,hdk⟩:=hhB'
   have hdok:=di.1 hok
   have hfew:=hf hdok hdk
   have hps:ps.length <=65536:=hfew ps hI.nd hI.reach
   have hddok:=hI.ok hdok hps
   refine⟨_,_,a2,n2,c2,b2,m2,e2,_,rfl,?_⟩
   intro k9 w9 hk9 hw9
   have b9:=(hw9▸ah w27 _:bW w27 w9)
   have A9:am w9 k9 af [vI 0,vI 0,.slice none 0 0,.slice none 0 0]:=am.new hk9 hw9
   obtain⟨wy,q2,v2,g2⟩:=bG.store0 (P:=prog) (cs:=daL a2 n2 c2 b2 m2 e2 dd) rfl (fM _ _ _ _ _ _ _) A9 rfl
   have b27y:=Below.put b9 g2 (by omega)
   have bxy:=ab b27 b27y b27.size
   have By:=ab Bx bxy Bx.size
   refine⟨wy,q2,ae.no rfl ?_⟩
   have hddk:dd.k=(ts.length:Int)+1:=by rw[hI.k,hdk]
   have hAy:=hA.below By
   refine ax (cY p ts (by omega) wy hAy) ?_
   rintro _ w35 ⟨rfl,hw35⟩
   rw[hw35];clear hw35 w35
   refine⟨_,rfl,λM aa ll cc i W=>∃j:Nat,j <=ts.length+1/\i=(j:Int)/\M=ts.length+1-j/\Ow cI aw W NoB aa ll cc ((ku ts).take j)/\bI wy.heap.size aa/\bW wy W,⟨_,0,by omega,rfl,rfl,by rw[List.take_zero];exact Ow.nil _ _ _ _,bI.none _,Below.refl _ _⟩,?_⟩
   intro M aa ll cc i
   refine aC.of ?_ _
   rintro wl ⟨j,hj,rfl,rfl,hO,hF,hBl⟩
   refine ae.of (λh3=>?_) (λh3=>?_) <;> simp only[dTx,dFx]at h3
   · have hjk:j<ts.length+1:=by omega
     refine ax (qM p ts (by omega) (j:Int) wl (hAy.below hBl)) ?_
     rintro _ w42 ⟨rfl,b42⟩
     have hst:tr ts (j:Int)=tx ts j:=rfl
     have hl1:(tx ts j).length <=1000:=MN htl hx' (by omega)
     refine⟨_,rfl,?_⟩
     rw[hst]
     intro k45 w45 hk45 hw45
     have B42:=ab hBl b42 hBl.size
     obtain⟨w46,a',n',c',r46,o46,f46,B46⟩:=FW (ty:=ar) fG aI ff (by decide) (hO.below b42) hF B42 (x:=(((tx ts j).length:Nat):Int)+1) hk45 hw45 (by rw[wrap_i64 (by omega) (by omega)];exact eE) (cm:=1) (by rw[List.length_take,ra];omega)
     refine⟨w46,a',n',c',r46,ts.length+1-(j+1),by omega,j+1,by omega,by rw[wrap_i64 (by omega) (by omega)];omega,rfl,?_,f46,B46⟩
     have e:(ku ts).take (j+1)=(ku ts).take j++[(((tx ts j).length:Nat):Int)+1]:=by
       have hlt:j<(ku ts).length:=by rw[ra];exact hjk
       have hg:(ku ts)[j]? =some ((((tx ts j).length:Nat):Int)+1):=by
         unfold ku
         rw[List.getElem?_map,List.getElem?_range hjk];rfl
       rw[List.getElem?_eq_getElem hlt]at hg
       rw[List.take_succ_eq_append_getElem hlt,Option.some.inj hg]
     rw[e];exact o46
   · have hjk:j=ts.length+1:=by omega
     subst hjk
     rw[List.take_of_length_le (by rw[ra];omega)]at hO
     have DS:DaS wl a2 n2 c2 b2 m2 e2 dd:=(OB.das.below b27y).below hBl
     refine⟨_,_,a2,n2,c2,b2,m2,e2,bG.load0 (cs:=daL a2 n2 c2 b2 m2 e2 dd) (v2.below hBl) rfl,?_⟩
     have hfine:=Ir htl hx'
     have bxl:=ab bxy hBl bxy.size
     have Bl:=ab By hBl By.size
     refine ax (vX DS hO.all 254 (by unfold INF;omega) (λh1 _ _=>⟨71,65536*71,Kh htl hx,?_,?_⟩)) ?_
     · have:=h1.n2
       have h2:((dd.n-1:Nat):Int) <=65536:=by show((dd.ac.length-1:Nat):Int) <=65536;omega
       omega
     · have:=h1.n2
       have h2:dd.n <=65536:=this
       have:dd.n*(65536*71+3) <=65536*(65536*71+3):=Nat.mul_le_mul_right _ h2
       omega
     have hask:JY dd (ku ts)=true:=by
       unfold JY
       rw[di.2 hddok,decide_eq_true (by rw[ra,hddk];omega),Cr.2 hfine];rfl
     have hlang:=N1 htl hdk hI
     rintro _ w51 ⟨b51,⟨h1,_⟩|⟨_,⟨hno,rfl⟩|⟨u,a5,n5,c5,rfl,o5,f5,hu,hc⟩⟩⟩
     · rw[hask]at h1;cases h1
     · refine⟨none,0,0,false,0,rfl,?_⟩
       obtain⟨wz,r1,r2,r3⟩:=back (g:=jf) false 0 rfl (ab bxl b51 bxl.size)
       refine⟨λ_=>False,⟨λbb W=>bb=true/\W=w51,ae.yes rfl ⟨rfl,rfl⟩,λbb=>aC.of ?_ _⟩,aC.of (λ_ hc=>hc.elim) _⟩
       rintro wj ⟨rfl,rfl⟩
       refine ae.yes rfl ⟨wz,r1,_,r2,r3,?_⟩
       rw[if_pos (by rw[<- eb];exact hhB)]
       refine⟨none,λv hv hw=>?_,(λg hg=>by cases hg),rfl⟩
       have:=hno v ((hlang v).2 ⟨hv,hw⟩)
       omega
     · refine⟨a5,n5,c5,true,0,rfl,?_⟩
       have bx51:=ab bxl b51 bxl.size
       have B51:=ab Bl b51 Bl.size
       refine⟨λW=>W=w51,⟨λbb W=>bb=false/\W=w51,ae.no rfl ⟨rfl,rfl⟩,λbb=>aC.of (λwj hj=>ae.no hj.1 hj.2) _⟩,aC.of ?_ _⟩
       rintro wj hwj
       rw[hwj];clear hwj wj
       have hu1:=(hlang u).1 hu.1
       have hsym:∀x∈u,x<ts.length+1:=by
         have:=hu1.1.1
         have hK:d.K=ts.length+1:=by unfold DA.K;rw[hdk];omega
         rwa [hK]at this
       have hul:u.length <=254:=by
         have h2:∀{v:List Nat},(∀x∈v,x<ts.length+1)->(v.length:Int) <=fL (ku ts) v:=by
           intro v
           induction v with
           | nil=>intro _;exact Int.le_refl _
           | cons x v ih=>
             intro hv
             have h3:=ih λy hy=>hv y (List.mem_cons_of_mem _ hy)
             have h4:=Cy (ts:=ts) (hv x List.mem_cons_self)
             simp only[fL,List.length_cons]
             omega
         have:=h2 hsym
         omega
       have etx:txs ts (wI u)=u.map (tx ts):=by unfold txs wI;rw[List.map_map];rfl
       refine ax (CB (he.step B51) (hA.below B51) (by omega) o5.all (Ow.inside o5) ?_ ?_ ?_) ?_
       · intro x hx'
         obtain⟨y,hy,rfl⟩:=List.mem_map.1 hx'
         have:=hsym y hy
         omega
       · unfold wI;rw[List.length_map];omega
       · rw[etx]
         intro x hx2
         obtain⟨y,hy,rfl⟩:=List.mem_map.1 hx2
         exact MN htl hx' (by have:=hsym y hy;omega)
       rintro _ w66 ⟨rfl,b66⟩
       rw[etx]
       obtain⟨g,hg,og,_,_⟩:=En hsym hu1.2 hc
       rw[hg]
       refine⟨_,_,rfl,?_⟩
       intro k14 w14 hk14 hw14
       have b14:=(hw14▸ah w66 _:bW w66 w14)
       have A14:am w14 k14 ai jf.cells:=am.new hk14 hw14
       obtain⟨w5x,r4,v4,g4⟩:=aJ.store0 (P:=prog) (cs:=g.cells) (Hst.len og) (Hst.one _) A14 rfl
       have bx14:=ab (ab bx51 b66 bx51.size) (Below.put b14 g4 (by omega)) (ab bx51 b66 bx51.size).size
       obtain⟨wz,r1,r2,r3⟩:=back (g:=g) true 0 og bx14
       refine⟨w5x,r4,_,aJ.load0 v4 (Hst.len og),wz,r1,_,r2,r3,?_⟩
       rw[if_pos (by rw[<- eb];exact hhB)]
       exact⟨some g,⟨u,hu.congr hlang,hc,hg⟩,(λg' hg'=>by cases hg';exact og),rfl⟩
def nC:List Int:=List.replicate 92 1
theorem EH:nC.length=92:=by simp[nC]
theorem Iz:wM nC:=λc hc=>by
 have:=(List.mem_replicate.1 hc).2
 omega
theorem mf:∀{v:List Nat},(∀x∈v,x<92)->fL nC v=(v.length:Int)
 | [],_=>rfl
 | x::v,h=>by
   have hx:=h x List.mem_cons_self
   have e:cAt nC x=1:=by
     unfold cAt nC
     rw[List.getD_eq_getElem?_getD,List.getElem?_replicate,if_pos hx];rfl
   simp only[fL]
   rw[e,mf λy hy=>h y (List.mem_cons_of_mem _ hy)]
   simp only[List.length_cons]
   omega
def Ng (v:List Nat):List UInt8:=v.map fun(x:Nat)=>chr (x:Int)
theorem MT {v:List Nat}(h:∀x∈v,x<92):kr (Ng v)=true/\pw (Ng v)=v:=by
 constructor
 · refine List.all_eq_true.2 λc hc=>?_
   obtain⟨x,hx,rfl⟩:=List.mem_map.1 hc
   have:=h x hx
   have e:=MI (i:=(x:Int)) (by unfold DN;simp;omega)
   rw[e];simp
 · unfold pw Ng
   rw[List.map_map]
   conv=>rhs;rw[<- List.map_id v]
   refine List.map_congr_left λx hx=>?_
   have:=h x hx
   have e:=MI (i:=(x:Int)) (by unfold DN;simp;omega)
   show(sym (chr (x:Int))).toNat=x
   rw[e];simp
theorem vl:kr [47]=true:=by decide
theorem Ke {p:List UInt8}(h:kr p=true)(h1:[47] <+:p)(h2:p.length <=2048):jn p=true:=by
 unfold jn
 obtain⟨r,e⟩:=h1
 have hd:p.head?=some 47:=by rw[<- e];rfl
 rw[decide_eq_true hd,decide_eq_true h2,Bool.true_and,Bool.true_and]
 refine List.all_eq_true.2 λc hc=>?_
 rw[JC]
 exact decide_eq_true (xX h hc)
theorem EJ {p:List UInt8}(h:jn p=true):pw [47] <+:pw p:=by
 obtain⟨g,h47,_⟩:=jo h
 refine(rj vl g).2 ?_
 cases p with
 | nil=>simp at h47
 | cons c q=>simp at h47;exact⟨q,by rw[h47];rfl⟩
def j6 (L:List Nat->Prop)(r:Option (List UInt8)):Prop:=
 match r with
 | some p=>∃v,vK nC (λv=>L v/\pw [47] <+:v) v/\fL nC v <=2048/\p=Ng v
 | none=>∀v,L v->pw [47] <+:v->2048<fL nC v
theorem j6.congr {L L':List Nat->Prop}{r:Option (List UInt8)}(h:j6 L r)(e:∀v,L v ↔ L' v):j6 L' r:=by
 cases r with
 | some p=>
   obtain⟨v,h1,h2,h3⟩:=h
   exact⟨v,h1.congr λu=>by rw[e u],h2,h3⟩
 | none=>exact λv hv=>h v ((e v).2 hv)
theorem j6.one {L:List Nat->Prop}{r r':Option (List UInt8)}(h:j6 L r)(k:j6 L r'):r=r':=by
 cases r with
 | none=>
   cases r' with
   | none=>rfl
   | some p=>
     obtain⟨v,h1,h2,h3⟩:=k
     have:=h v h1.1.1 h1.1.2
     omega
 | some p=>
   obtain⟨v,h1,h2,h3⟩:=h
   cases r' with
   | none=>
     have:=k v h1.1.1 h1.1.2
     omega
   | some q=>
     obtain⟨u,k1,k2,k3⟩:=k
     rw[h3,k3,h1.one k1]
theorem EI {L:List Nat->Prop}(hL:∀v,L v->∀x∈v,x<92){p:List UInt8}(h:j6 L (some p)):jn p=true/\L (pw p)/\∀q,jn q=true->L (pw q)->p.length <=q.length:=by
 obtain⟨v,h1,h2,rfl⟩:=h
 have hv:=hL v h1.1.1
 obtain⟨g,e⟩:=MT hv
 rw[mf hv]at h2
 have hlen:(Ng v).length=v.length:=by simp[Ng]
 have hpre:[47] <+:Ng v:=(rj vl g).1 (by rw[e];exact h1.1.2)
 refine⟨Ke g hpre (by omega),by rw[e];exact h1.1.1,λq hq hLq=>?_⟩
 have hq':=EJ hq
 have h3:=h1.2 (pw q) ⟨hLq,hq'⟩
 rw[mf hv,mf (hL _ hLq)]at h3
 have:(pw q).length=q.length:=by simp[pw]
 omega
theorem Hg {L:List Nat->Prop}(hL:∀v,L v->∀x∈v,x<92)(h:j6 L none){q:List UInt8}(hq:jn q=true): ¬ L (pw q):=λhLq=>by
 have:=h _ hLq (EJ hq)
 rw[mf (hL _ hLq)]at this
 have h2:=(jo hq).2.2
 have:(pw q).length=q.length:=by simp[pw]
 omega
theorem zU (a b:Int)(c:Option Addr)(d e:Nat)(f:Option Addr)(g i:Nat){w K}(h:nA w (.cells #[vI a,vI b,.slice c d e,.slice f g i] af) λj k=>∃l:FP [.one .ptr,.one (.int .i64)],((∃m n o p q r s t,Ld af (vA j 0) (World.drew k) (.agg #[vI m,vI n,.slice o p q,.slice r s t])/\(Cf cV #[] (World.drew k) λu v=>∃x y z A B C D E,u=.returned (.agg #[vI x,vI y,.slice z A B,.slice C D E])/\(Cf dq #[.agg #[vI m,vI n,.slice o p q,.slice r s t],.agg #[vI x,vI y,.slice z A B,.slice C D E]] v λF G=>∃H I J L M N O P Q,F=rT #[.agg #[vI H,vI I,.slice J L M,.slice N O P],vI Q]/\nA G (.cells #[vI 0,vI 0,.slice none 0 0,.slice none 0 0] af) λR S=>∃T,Sv af (vA R 0) (.agg #[vI H,vI I,.slice J L M,.slice N O P]) S T/\l (vA R 0) Q T)/\nA v (.cells #[vI 0,vI 0,.slice none 0 0,.slice none 0 0] af) λF G=>Cf dq #[.agg #[vI m,vI n,.slice o p q,.slice r s t],.agg #[vI x,vI y,.slice z A B,.slice C D E]] G λH I=>∃J L M N O P Q R S,H=rT #[.agg #[vI J,vI L,.slice M N O,.slice P Q R],vI S]/\∃T,Sv af (vA F 0) (.agg #[vI J,vI L,.slice M N O,.slice P Q R]) I T/\l (vA F 0) S T)/\∀u v,u=(World.drew k).heap.size->v=(World.drew k).alloc (.cells #[vI 0,vI 0,.slice none 0 0,.slice none 0 0] af)->Cf cV #[] v λx y=>∃z A B C D E F G,x=.returned (.agg #[vI z,vI A,.slice B C D,.slice E F G])/\Cf dq #[.agg #[vI m,vI n,.slice o p q,.slice r s t],.agg #[vI z,vI A,.slice B C D,.slice E F G]] y λH I=>∃J L M N O P Q R S,H=rT #[.agg #[vI J,vI L,.slice M N O,.slice P Q R],vI S]/\∃T,Sv af (vA u 0) (.agg #[vI J,vI L,.slice M N O,.slice P Q R]) I T/\l (vA u 0) S T)/\(Cf cV #[] (World.drew k) λm n=>∃o p q r s t u v,m=.returned (.agg #[vI o,vI p,.slice q r s,.slice t u v])/\(∃x y z A B C D E,Ld af (vA j 0) n (.agg #[vI x,vI y,.slice z A B,.slice C D E])/\(Cf dq #[.agg #[vI x,vI y,.slice z A B,.slice C D E],.agg #[vI o,vI p,.slice q r s,.slice t u v]] n λF G=>∃H I J L M N O P Q,F=rT #[.agg #[vI H,vI I,.slice J L M,.slice N O P],vI Q]/\nA G (.cells #[vI 0,vI 0,.slice none 0 0,.slice none 0 0] af) λR S=>∃T,Sv af (vA R 0) (.agg #[vI H,vI I,.slice J L M,.slice N O P]) S T/\l (vA R 0) Q T)/\nA n (.cells #[vI 0,vI 0,.slice none 0 0,.slice none 0 0] af) λF G=>Cf dq #[.agg #[vI x,vI y,.slice z A B,.slice C D E],.agg #[vI o,vI p,.slice q r s,.slice t u v]] G λH I=>∃J L M N O P Q R S,H=rT #[.agg #[vI J,vI L,.slice M N O,.slice P Q R],vI S]/\∃T,Sv af (vA F 0) (.agg #[vI J,vI L,.slice M N O,.slice P Q R]) I T/\l (vA F 0) S T)/\nA n (.cells #[vI 0,vI 0,.slice none 0 0,.slice none 0 0] af) λx y=>∃z A B C D E F G,Ld af (vA j 0) y (.agg #[vI z,vI A,.slice B C D,.slice E F G])/\Cf dq #[.agg #[vI z,vI A,.slice B C D,.slice E F G],.agg #[vI o,vI p,.slice q r s,.slice t u v]] y λH I=>∃J L M N O P Q R S,H=rT #[.agg #[vI J,vI L,.slice M N O,.slice P Q R],vI S]/\∃T,Sv af (vA x 0) (.agg #[vI J,vI L,.slice M N O,.slice P Q R]) I T/\l (vA x 0) S T)/\∀m n,m=(World.drew k).heap.size->n=(World.drew k).alloc (.cells #[vI 0,vI 0,.slice none 0 0,.slice none 0 0] af)->(∃o p q r s t u v,Ld af (vA j 0) n (.agg #[vI o,vI p,.slice q r s,.slice t u v])/\Cf cV #[] n λx y=>∃z A B C D E F G,x=.returned (.agg #[vI z,vI A,.slice B C D,.slice E F G])/\Cf dq #[.agg #[vI o,vI p,.slice q r s,.slice t u v],.agg #[vI z,vI A,.slice B C D,.slice E F G]] y λH I=>∃J L M N O P Q R S,H=rT #[.agg #[vI J,vI L,.slice M N O,.slice P Q R],vI S]/\∃T,Sv af (vA m 0) (.agg #[vI J,vI L,.slice M N O,.slice P Q R]) I T/\l (vA m 0) S T)/\Cf cV #[] n λo p=>∃q r s t u v x y,o=.returned (.agg #[vI q,vI r,.slice s t u,.slice v x y])/\∃z A B C D E F G,Ld af (vA j 0) p (.agg #[vI z,vI A,.slice B C D,.slice E F G])/\Cf dq #[.agg #[vI z,vI A,.slice B C D,.slice E F G],.agg #[vI q,vI r,.slice s t u,.slice v x y]] p λH I=>∃J L M N O P Q R S,H=rT #[.agg #[vI J,vI L,.slice M N O,.slice P Q R],vI S]/\∃T,Sv af (vA m 0) (.agg #[vI J,vI L,.slice M N O,.slice P Q R]) I T/\l (vA m 0) S T)/\∀m n,aC 6 (∀o,l m n o->ae (n !=(0:Int)) (K (.tuple #[vS [],.bool false,vI n]) o) (∃p:FP [.one (.int .i64),.one .slice,.one .bool],((∃q r s t u v x y,Ld af m (World.drew o) (.agg #[vI q,vI r,.slice s t u,.slice v x y])/\∀z A,z=(World.drew o).heap.size->A=(World.drew o).alloc (.cells #[vI 1] aw)->uL bL #[.slice (vA z 0) 1 1,vI 92] A λB C D E=>Cf ig #[.agg #[vI q,vI r,.slice s t u,.slice v x y],.slice B C D,vI 2048] E λF G=>∃H I J L M,F=rT #[.slice H I J,.bool L,vI M]/\p M H I J L G)/\∀q r,q=(World.drew o).heap.size->r=(World.drew o).alloc (.cells #[vI 1] aw)->(∃s t u v x y z A,Ld af m r (.agg #[vI s,vI t,.slice u v x,.slice y z A])/\uL bL #[.slice (vA q 0) 1 1,vI 92] r λB C D E=>Cf ig #[.agg #[vI s,vI t,.slice u v x,.slice y z A],.slice B C D,vI 2048] E λF G=>∃H I J L M,F=rT #[.slice H I J,.bool L,vI M]/\p M H I J L G)/\uL bL #[.slice (vA q 0) 1 1,vI 92] r λs t u v=>∃x y z A B C D E,Ld af m v (.agg #[vI x,vI y,.slice z A B,.slice C D E])/\Cf ig #[.agg #[vI x,vI y,.slice z A B,.slice C D E],.slice s t u,vI 2048] v λF G=>∃H I J L M,F=rT #[.slice H I J,.bool L,vI M]/\p M H I J L G)/\∀q r s t u,aC 8 (∀v,p q r s t u v->∃x:FP [],(ae (!u) (K (.tuple #[vS [],.bool false,vI q]) v) (ae (q !=(0:Int)) (K (.tuple #[vS [],.bool false,vI q]) v) (x v)))/\aC 10 (∀y,x y->Cf kN #[.slice r s t] y λz A=>∃B C,z=rT #[vS B,.bool C]/\K (.tuple #[vS B,.bool C,vI 0]) A))))):Cf oM #[.agg #[vI a,vI b,.slice c d e,.slice f g i]] w (Ret K):=ru func88 [(2,[(5,.one .ptr),(6,.one (.int .i64))]),(12,[(6,.one (.int .i64)),(7,.one .slice),(8,.one .bool)]),(14,[])] h
def pB (d:DA):Bool:=okD d&&decide (d.k=92)
theorem RV:xG (dE [47]) (pw [47]) 1:=oF vl (by decide)
theorem K6:(dE [47]).k=92:=by unfold dE;rw[if_pos vl];rfl
theorem QE:(dE [47]).K=92:=by unfold DA.K;rw[K6];rfl
theorem Mo {d e:DA}{ps:List Pr}(hk:d.k=92)(hI:jr d (dE [47]) (λx y=>x&&y) e ps)(v:List Nat):
   e.Lang e.s v ↔ d.Lang d.s v/\pw [47] <+:v:=by
 have hK:d.K=92:=by unfold DA.K;rw[hk];rfl
 rw[hI.lang v]
 have h2:=RV.lang v
 unfold DA.Lang at h2 ⊢
 rw[QE]at h2
 rw[hK,Bool.and_eq_true]
 constructor
 · rintro⟨h3,h4,h5⟩
   exact⟨⟨h3,h4⟩,(h2.1 ⟨h3,h5⟩).2⟩
 · rintro⟨⟨h3,h4⟩,h5⟩
   exact⟨h3,h4,(h2.2 ⟨h3,h5⟩).2⟩
structure OJ (d:DA)(nn:Int)(dd:DA)(B:Nat)(W:World)(a:Option Addr)(n c:Nat)(b:Option Addr)(m e:Nat):Prop where
 da:zb B W a n c b m e dd
 how:nn=151/\pB d=false\/nn=0/\pB d=true/\∃ps,jr d (dE [47]) (λx y=>x&&y) dd ps
theorem QJ {W:World}{a b a1 b1:Option Addr}{n c m e n1 c1 m1 e1:Nat}{d:DA}(h:DaS W a n c b m e d)(h1:DaS W a1 n1 c1 b1 m1 e1 (dE [47]))(hf:d.Ok->d.k=92->Few d (dE [47])):
   Cf dq #[daV a n c b m e d,daV a1 n1 c1 b1 m1 e1 (dE [47])] W (Ret λv W'=>∃(nn:Int) (dd:DA) (a2:Option Addr) (n2 c2:Nat) (b2:Option Addr) (m2 e2:Nat),v=.tuple #[daV a2 n2 c2 b2 m2 e2 dd,vI nn]/\OJ d nn dd W.heap.size W' a2 n2 c2 b2 m2 e2/\bW W W'):=by
 refine ax (wX h h1 (λq1 _ hk=>hf q1 (by rw[hk,K6]))) ?_
 intro v w27 hP
 have eb:iG d (dE [47])=pB d:=by
   have e1:(d.k==(dE [47]).k)=decide (d.k=92):=by rw[K6,Bool.eq_iff_iff,beq_iff_eq,dTx]
   unfold iG pB
   rw[di.2 RV.ok,Bool.true_and,e1]
 unfold rK at hP
 rw[eb]at hP
 cases hp:pB d with
 | false=>
   rw[if_neg (by rw[hp];decide)]at hP
   obtain⟨rfl,b27⟩:=hP
   exact⟨_,rfl,151,d0,none,0,0,none,0,0,rfl,⟨⟨Ow.nil _ _ _ _,Ow.nil _ _ _ _,(λg hg=>by cases hg),bI.none _,bI.none _⟩,.inl ⟨rfl,hp⟩⟩,b27⟩
 | true=>
   rw[if_pos hp]at hP
   obtain⟨dd,ps,hI,a2,n2,c2,b2,m2,e2,rfl,OB,b27⟩:=hP
   exact⟨_,rfl,0,dd,a2,n2,c2,b2,m2,e2,rfl,⟨OB,.inr ⟨rfl,hp,ps,hI⟩⟩,b27⟩
def Qw (d:DA)(w:World)(v:Value)(w':World):Prop:=bW w w'/\
 if pB d=true then ∃r:Option (List UInt8),j6 (d.Lang d.s) r/\v=.tuple #[vS (r.getD []),.bool r.isSome,vI 0]else v=.tuple #[vS [],.bool false,vI 151]
theorem Kv:Nk nC 1:=by
 refine⟨by omega,by omega,λx hx=>?_⟩
 rw[EH]at hx
 unfold cAt nC
 rw[List.getD_eq_getElem?_getD,List.getElem?_replicate,if_pos hx]
 exact Int.le_refl _
set_option maxHeartbeats 1000000 in
theorem AR {w:World}{a b:Option Addr}{n c m e:Nat}{d:DA}(h:DaS w a n c b m e d)(hf:d.Ok->d.k=92->Few d (dE [47])):
   Cf oM #[daV a n c b m e d] w (Ret (Qw d w)):=by
 apply zU
 intro k1 w1 hk1 hw1
 have b1:=(hw1▸ah w _:bW w w1)
 have A1:am w1 k1 af (daL a n c b m e d):=am.new hk1 hw1
 have D1:=h.below b1
 have ld:∀{W:World},bW w1 W->(Instr.loadAt af (.pointer (some ⟨k1,0,none⟩))).run prog W=.ok (daV a n c b m e d) W:=λhb=>bG.load0 (cs:=daL a n c b m e d) (A1.below hb) rfl
 let J:Option Addr->Int->World->Prop:=λp n6 W=>bW w1 W/\∃(k:Nat) (dd:DA) (a2:Option Addr) (n2 c2:Nat) (b2:Option Addr) (m2 e2:Nat),p=some ⟨k,0,none⟩/\am W k af (daL a2 n2 c2 b2 m2 e2 dd)/\∃B,OJ d n6 dd B W a2 n2 c2 b2 m2 e2
 have fin:∀{W:World} {k:Nat} {nn:Int} {dd:DA} {a2 b2:Option Addr} {n2 c2 m2 e2:Nat},bW w1 W->w1.heap.size <=k->am W k af [vI 0,vI 0,.slice none 0 0,.slice none 0 0]->(∀W',W.grownBy W' (some k)->∃B,OJ d nn dd B W' a2 n2 c2 b2 m2 e2)->
     ∃wx,(Instr.storeAt af (.pointer (some ⟨k,0,none⟩)) (daV a2 n2 c2 b2 m2 e2 dd)).run prog W=.ok () wx/\J (some ⟨k,0,none⟩) nn wx:=by
   intro W k nn dd a2 b2 n2 c2 m2 e2 hb hk hA hR
   obtain⟨wx,q1,v1,g1⟩:=bG.store0 (P:=prog) (cs:=daL a2 n2 c2 b2 m2 e2 dd) rfl (fM _ _ _ _ _ _ _) hA rfl
   exact⟨wx,q1,Below.put hb g1 hk,k,dd,a2,n2,c2,b2,m2,e2,rfl,v1,hR wx g1⟩
 have c2:∀{W:World} {k:Nat} {a1 b1:Option Addr} {n1 c1 m1 e1:Nat},bW w1 W->w1.heap.size <=k->am W k af [vI 0,vI 0,.slice none 0 0,.slice none 0 0]->DaS W a1 n1 c1 b1 m1 e1 (dE [47])->
     Cf dq #[daV a n c b m e d,daV a1 n1 c1 b1 m1 e1 (dE [47])] W λe13 w13=>∃(n00 n01:Int) (a2:Option Addr) (l2 q2:Nat) (a3:Option Addr) (l3 q3:Nat) (nn:Int),e13=.returned (.tuple #[.agg #[vI n00,vI n01,.slice a2 l2 q2,.slice a3 l3 q3],vI nn])/\
       ∃(wx:World),(Instr.storeAt af (.pointer (some ⟨k,0,none⟩)) (.agg #[vI n00,vI n01,.slice a2 l2 q2,.slice a3 l3 q3])).run prog w13=.ok () wx/\J (some ⟨k,0,none⟩) nn wx:=by
   intro W k a1 b1 n1 c1 m1 e1 hb hk hA hD
   refine ax (QJ (D1.below hb) hD hf) ?_
   rintro _ w13 ⟨nn,dd,a2,n2,c2,b2,m2,e2,rfl,hR,hb13⟩
   have hlt:=hA.lt
   exact⟨_,_,a2,n2,c2,b2,m2,e2,nn,rfl,fin (ab hb hb13 hb.size) hk (hA.below hb13) λW' g=>⟨_,hR.da.put g hlt,hR.how⟩⟩
 have Z:∀{W W':World} {k:Nat},k=W.heap.size->W'=W.alloc (.cells #[vI 0,vI 0,.slice none 0 0,.slice none 0 0] af)->am W' k af [vI 0,vI 0,.slice none 0 0,.slice none 0 0]/\bW W W':=λhk hw=>⟨am.new hk hw,hw▸ah _ _⟩
 have c1:∀{W:World} {a1 b1:Option Addr} {n1 c1 m1 e1:Nat},bW w1 W->DaS W a1 n1 c1 b1 m1 e1 (dE [47])->
     Cf dq #[daV a n c b m e d,daV a1 n1 c1 b1 m1 e1 (dE [47])] W λe13 w13=>∃(n00 n01:Int) (a2:Option Addr) (l2 q2:Nat) (a3:Option Addr) (l3 q3:Nat) (nn:Int),e13=.returned (.tuple #[.agg #[vI n00,vI n01,.slice a2 l2 q2,.slice a3 l3 q3],vI nn])/\
       ∀(k5:Nat) (w5:World),k5=w13.heap.size->w5=w13.alloc (.cells #[vI 0,vI 0,.slice none 0 0,.slice none 0 0] af)->
       ∃(wx:World),(Instr.storeAt af (.pointer (some ⟨k5,0,none⟩)) (.agg #[vI n00,vI n01,.slice a2 l2 q2,.slice a3 l3 q3])).run prog w5=.ok () wx/\J (some ⟨k5,0,none⟩) nn wx:=by
   intro W a1 b1 n1 c1 m1 e1 hb hD
   refine ax (QJ (D1.below hb) hD hf) ?_
   rintro _ w13 ⟨nn,dd,a2,n2,c2,b2,m2,e2,rfl,hR,hb13⟩
   refine⟨_,_,a2,n2,c2,b2,m2,e2,nn,rfl,?_⟩
   intro k5 w5 hk5 hw5
   obtain⟨A5,b5⟩:=Z hk5 hw5
   have B13:=ab hb hb13 hb.size
   have s13:=B13.size
   exact fin (ab B13 b5 B13.size) (by omega) A5 λW' g=>⟨_,hR.da.below (Below.put b5 g (by omega)),hR.how⟩
 have B0:bW w1 w1.drew:=bg w1
 have paths:∀(W:World),Cf cV #[] W (Ret (Qx W (dE [47]))):=I4
 refine⟨J,⟨⟨_,_,a,n,c,b,m,e,ld B0,⟨?_,?_⟩⟩,⟨?_,?_⟩⟩,?_⟩
 · refine ax (paths _) ?_
   rintro _ w12 ⟨a1,n1,c1',b1',m1,e1,rfl,O,hb⟩
   have B:=ab B0 hb B0.size
   have s:=B.size
   refine⟨_,_,a1,n1,c1',b1',m1,e1,rfl,c1 B O.das,?_⟩
   intro k5 w5 hk5 hw5
   obtain⟨A5,b5⟩:=Z hk5 hw5
   exact c2 (ab B b5 B.size) (by omega) A5 (O.das.below b5)
 · intro k5 w5 hk5 hw5
   obtain⟨A5,b5⟩:=Z hk5 hw5
   have B:=ab B0 b5 B0.size
   have s:=B0.size
   refine ax (paths _) ?_
   rintro _ w12 ⟨a1,n1,c1',b1',m1,e1,rfl,O,hb⟩
   exact⟨_,_,a1,n1,c1',b1',m1,e1,rfl,c2 (ab B hb B.size) (by omega) (A5.below hb) O.das⟩
 · refine ax (paths _) ?_
   rintro _ w12 ⟨a1,n1,c1',b1',m1,e1,rfl,O,hb⟩
   have B:=ab B0 hb B0.size
   have s:=B.size
   refine⟨_,_,a1,n1,c1',b1',m1,e1,rfl,⟨_,_,a,n,c,b,m,e,ld B,c1 B O.das,?_⟩,?_⟩
   · intro k5 w5 hk5 hw5
     obtain⟨A5,b5⟩:=Z hk5 hw5
     exact c2 (ab B b5 B.size) (by omega) A5 (O.das.below b5)
   · intro k5 w5 hk5 hw5
     obtain⟨A5,b5⟩:=Z hk5 hw5
     have B5:=ab B b5 B.size
     exact⟨_,_,a,n,c,b,m,e,ld B5,c2 B5 (by omega) A5 (O.das.below b5)⟩
 · intro k5 w5 hk5 hw5
   obtain⟨A5,b5⟩:=Z hk5 hw5
   have B:=ab B0 b5 B0.size
   have s:=B0.size
   refine⟨⟨_,_,a,n,c,b,m,e,ld B,?_⟩,?_⟩
   · refine ax (paths _) ?_
     rintro _ w12 ⟨a1,n1,c1',b1',m1,e1,rfl,O,hb⟩
     exact⟨_,_,a1,n1,c1',b1',m1,e1,rfl,c2 (ab B hb B.size) (by omega) (A5.below hb) O.das⟩
   · refine ax (paths _) ?_
     rintro _ w12 ⟨a1,n1,c1',b1',m1,e1,rfl,O,hb⟩
     have B12:=ab B hb B.size
     exact⟨_,_,a1,n1,c1',b1',m1,e1,rfl,_,_,a,n,c,b,m,e,ld B12,c2 B12 (by omega) (A5.below hb) O.das⟩
 intro p5 n6
 refine aC.of ?_ _
 rintro wj ⟨Bj,k,dd,a2,n2,c2',b2,m2,e2,rfl,Aj,BB,hR⟩
 have Bw:=ab b1 Bj b1.size
 rcases hR.how with⟨rfl,hp⟩|⟨rfl,hp,ps,hI⟩
 · exact ae.yes rfl ⟨Bw,by rw[if_neg (by rw[hp];decide)]⟩
 refine ae.no rfl ?_
 have hp':=hp
 unfold pB at hp'
 rw[Bool.and_eq_true,dTx]at hp'
 obtain⟨hok,hdk⟩:=hp'
 have hdok:=di.1 hok
 have hps:ps.length <=65536:=hf hdok hdk ps hI.nd hI.reach
 have hddok:=hI.ok hdok hps
 have hddk:dd.k=92:=by rw[hI.k,hdk]
 have hlang:=Mo hdk hI
 have DD:=hR.da.das
 have hask:JY dd nC=true:=by
   unfold JY
   rw[di.2 hddok,decide_eq_true (by rw[EH,hddk];rfl),Cr.2 Iz];rfl
 let J1:Int->Option Addr->Nat->Nat->Bool->World->Prop:=λn6 a7 l7 c7 b8 W=>bW wj W/\n6=0/\(b8=false/\(∀u,dd.Lang dd.s u->2048<fL nC u)\/b8=true/\∃u,Ow cI aw W NoB a7 l7 c7 (wI u)/\vK nC (dd.Lang dd.s) u/\fL nC u <=2048)
 have lst:∀{W:World} {a1:Option Addr} {l1 q1:Nat},bW wj W->Ow cI aw W NoB a1 l1 q1 nC->
     Cf ig #[daV a2 n2 c2' b2 m2 e2 dd,.slice a1 l1 q1,vI 2048] W λe23 w23=>∃(a0:Option Addr) (l0 q0:Nat) (bb:Bool) (nn:Int),e23=.returned (.tuple #[.slice a0 l0 q0,.bool bb,vI nn])/\J1 nn a0 l0 q0 bb w23:=by
   intro W a1 l1 q1 hb hO
   refine ax (vX (DD.below hb) hO.all 2048 (by unfold INF;omega) (λh1 _ _=>⟨1,65536,Kv,?_,?_⟩)) ?_
   · have:=h1.n2
     have h2:((dd.n-1:Nat):Int) <=65536:=by show((dd.ac.length-1:Nat):Int) <=65536;omega
     omega
   · have h2:dd.n <=65536:=h1.n2
     have:dd.n*(65536+3) <=65536*(65536+3):=Nat.mul_le_mul_right _ h2
     omega
   rintro _ w51 ⟨b51,⟨h1,_⟩|⟨_,⟨hno,rfl⟩|⟨u,a5,n5,c5,rfl,o5,f5,hu,hc⟩⟩⟩
   · rw[hask]at h1;cases h1
   · exact⟨none,0,0,false,0,rfl,ab hb b51 hb.size,rfl,.inl ⟨rfl,hno⟩⟩
   · exact⟨a5,n5,c5,true,0,rfl,ab hb b51 hb.size,rfl,.inr ⟨rfl,u,o5,hu,hc⟩⟩
 have ld2:∀{W:World},bW wj W->(Instr.loadAt af (.pointer (some ⟨k,0,none⟩))).run prog W=.ok (daV a2 n2 c2' b2 m2 e2 dd) W:=λhb=>bG.load0 (cs:=daL a2 n2 c2' b2 m2 e2 dd) (Aj.below hb) rfl
 have E0:bW wj wj.drew:=bg wj
 have one:∀{W W':World} {k:Nat},k=W.heap.size->W'=W.alloc (.cells #[vI 1] aw)->Sl cI W' kj (some ⟨k,0,none⟩) 1 1 [1]/\bW W W':=λhk hw=>⟨(Ow.newF (T:=cI) (A:=NoB) (l:=[vI 1]) (xs:=[1]) fG hk hw (iK.one eE) (by decide)).all,hw▸ah _ _⟩
 refine⟨J1,⟨⟨_,_,a2,n2,c2',b2,m2,e2,ld2 E0,?_⟩,?_⟩,?_⟩
 · intro k21 w21 hk21 hw21
   obtain⟨S,b21⟩:=one hk21 hw21
   have B:=ab E0 b21 E0.size
   refine ax (rk S (k:=92) (by omega) (by omega)) ?_
   rintro _ w22 ⟨a',rfl,o22,f22,b22⟩
   exact⟨a',92,92,rfl,lst (ab B b22 B.size) o22⟩
 · intro k21 w21 hk21 hw21
   obtain⟨S,b21⟩:=one hk21 hw21
   have B:=ab E0 b21 E0.size
   refine⟨⟨_,_,a2,n2,c2',b2,m2,e2,ld2 B,?_⟩,?_⟩
   · refine ax (rk S (k:=92) (by omega) (by omega)) ?_
     rintro _ w22 ⟨a',rfl,o22,f22,b22⟩
     exact⟨a',92,92,rfl,lst (ab B b22 B.size) o22⟩
   · refine ax (rk S (k:=92) (by omega) (by omega)) ?_
     rintro _ w22 ⟨a',rfl,o22,f22,b22⟩
     have B22:=ab B b22 B.size
     exact⟨a',92,92,rfl,_,_,a2,n2,c2',b2,m2,e2,ld2 B22,lst B22 o22⟩
 intro n6 a7 l7 c7 b8
 refine aC.of ?_ _
 rintro W ⟨hb,rfl,⟨rfl,hno⟩|⟨rfl,u,o5,hu,hc⟩⟩
 · refine⟨λ_=>False,ae.yes rfl ⟨ab Bw hb Bw.size,?_⟩,aC.of (λ_ hc=>hc.elim) _⟩
   rw[if_pos hp]
   exact⟨none,λv hv hs=>hno v ((hlang v).2 ⟨hv,hs⟩),rfl⟩
 · have BW:=ab Bw hb Bw.size
   refine⟨λW'=>W'=W,ae.no rfl (ae.no rfl rfl),aC.of ?_ _⟩
   rintro wq hwq
   rw[hwq];clear hwq wq
   have hu1:=(hlang u).1 hu.1
   have hK:d.K=92:=by unfold DA.K;rw[hdk];rfl
   have hsym:∀x∈u,x<92:=by
     have:=hu1.1.1
     rwa [hK]at this
   have hul:u.length <=2048:=by
     have:=mf hsym
     omega
   refine ax (xB (l:=wI u) (by unfold wI;rw[List.length_map];omega) o5.all) ?_
   rintro _ w36 ⟨rfl,b36⟩
   have hok2:okL (wI u)=true:=by
     unfold okL wI
     rw[List.all_map,List.all_eq_true]
     intro x hx
     have:=hsym x hx
     show(decide (0 <=((x:Nat):Int))&&decide (((x:Nat):Int)<92))=true
     rw[decide_eq_true (by omega),decide_eq_true (by omega)];rfl
   have et:Hy (wI u)=Ng u:=by unfold Hy;rw[if_pos hok2];unfold Ng wI;rw[List.map_map];rfl
   refine⟨_,_,rfl,ab BW b36 BW.size,?_⟩
   rw[if_pos hp,hok2,et]
   exact⟨some (Ng u),⟨u,hu.congr hlang,hc,rfl⟩,rfl⟩
def vw:List Bool->Int->Int
 | [],_=> -1
 | true::_,i=>i
 | false::l,i=>vw l (i+1)
theorem Eu {w:World}{A:Bl}{a:Option Addr}{n c:Nat}{xs:List Bool}(hs:Sl lH w A a n c xs):Cf cd #[.slice a n c,.bool true] w (Ret λv w'=>v=vI (vw xs 0)/\w'=w):=by
 have hn:=hs.len
 subst hn
 have hle:=hs.le
 apply jt
 refine⟨λm i w'=>∃j:Nat,j <=xs.length/\i=(j:Int)/\m=xs.length-j/\vw xs 0=vw (xs.drop j) (j:Int)/\w'=w,⟨_,0,by omega,rfl,rfl,rfl,rfl⟩,?_⟩
 intro m i
 refine aC.of ?_ _
 rintro w' ⟨j,hj,rfl,rfl,he,hw'⟩
 rw[hw'];clear hw' w'
 refine ae.of (λh=>?_) (λh=>?_) <;> simp only[dTx,dFx]at h
 · have hlt:j<xs.length:=by omega
   obtain⟨v,hv,hrep⟩:=hs.load1 (P:=prog) (i:=(j:Int)) bv rfl rfl (by simpa using hlt)
   have hb:=xP hrep
   subst hb
   simp only[Int.toNat_natCast]at hv
   rw[List.drop_eq_getElem_cons hlt]at he
   refine⟨⟨⟨by omega,h⟩,hs.isSome hlt⟩,_,hv,?_⟩
   cases hx:xs[j]with
   | true=>
     rw[hx]at he
     exact ae.yes rfl ⟨by rw[he];rfl,rfl⟩
   | false=>
     rw[hx]at he
     exact ae.no rfl ⟨xs.length-(j+1),by omega,j+1,by omega,by rw[wrap_i64 (by omega) (by omega)];omega,rfl,by rw[he];rfl,rfl⟩
 · have:j=xs.length:=by omega
   subst this
   rw[List.drop_length]at he
   exact⟨by rw[he];rfl,rfl⟩
theorem Mt {w:World}{A:Bl}(xs:List Bool):iK lH w A (xs.map .bool) xs:=by
 induction xs with
 | nil=>exact iK.nil _ _ _
 | cons x xs ih=>exact(iK.one (vh (b:=x))).append ih
theorem JK {w:World}{k off:Nat}{T:TypeId}{cs:List Value}{xs:List Bool}(h:am w k T cs)(hc:∀j,j<xs.length->cs[off+j]? =(xs.map Value.bool)[j]?)(hl:xs.length <=maxLen):Sl lH w kj (some ⟨k,off,none⟩) xs.length xs.length xs:=
 ⟨rfl,Nat.le_refl _,hl,.inr ⟨k,off,rfl,h.lt,trivial,xs.map .bool,Mt xs,λj hj=>by rw[h.cell];exact hc j (by simpa using hj)⟩⟩
def Rgn.sch (r:Rgn):List Bool:=[r.s0,r.s1]
def Rgn.crs (r:Rgn):List Bool:=[r.c0,r.c1,r.c2]
def Gt:Req:=⟨false,jf,[],0⟩
def zc (r:Rgn)(rh:Option Hst)(rp:Option (List UInt8)):Option Req:=
 match rh,rp with
 | some g,some t=>if vw r.sch 0<0\/vw r.crs 0<0 then none else some ⟨vw r.sch 0==1,g,t,vw r.crs 0⟩
 | _,_=>none
def OX (ts:List Txt)(r:Rgn)(w:World)(v:Value)(w':World):Prop:=bW w w'/\∃(rh:Option Hst) (rp:Option (List UInt8)),oB ts (r.h.Lang r.h.s) rh/\(∀g,rh=some g->g.ok)/\j6 (r.p.Lang r.p.s) rp/\
 v=.tuple #[((zc r rh rp).getD Gt).v,.bool (zc r rh rp).isSome,vI 0]
theorem Ny {g:Hst}(o:g.ok)(b:Bool)(p:List UInt8)(n:Int)(w:World):(Instr.build aq #[(0,.bool b),(1,g.v),(2,vS p),(3,vI n)]).run prog w=.ok (Req.v ⟨b,g,p,n⟩) w:=by
 obtain⟨k,n',a⟩:=g
 obtain⟨x0,x1,x2,x3,x4,x5,x6,x7,x8,x9,x10,x11,x12,x13,x14,x15,rfl⟩:=Ez a o
 kernel_rfl
set_option maxHeartbeats 1000000 in
theorem mg {w:World}(he:Env w){p:Option Addr}{ts:List Txt}(hA:gB w p ts)(htl:ts.length <=60)(hx:∀t∈ts,t.length <=70){r:Rgn}{x y:Rgp}(hr:RgS w r x y)(hh:hB ts r.h=true)(hp:pB r.p=true)(fh:Few r.h (Bi ts))(fp:Few r.p (dE [47])):
   Cf dV #[.pointer p,r.v x y] w (Ret (OX ts r w)):=by
 apply yz
 intro k3 w3 hk3 hw3 k4 w4 hk4 hw4
 have b3:=(hw3▸ah w _:bW w w3)
 have b4:=(hw4▸ah w3 _:bW w3 w4)
 have A3:am w3 k3 aj (r.cells x y):=am.new hk3 hw3
 have A4:am w4 k4 aq Gt.cells:=am.new hk4 hw4
 have B4:=ab b3 b4 b3.size
 have s3:=b3.size
 have A34:=A3.below b4
 refine⟨rfl,_,_,x.a,x.n,x.c,x.b,x.m,x.e,vi A34,?_⟩
 refine ax (AL (he.step B4) (hA.below B4) htl hx (hr.h.below B4) (λ_ _=>fh)) ?_
 rintro v w20 ⟨b20,hv⟩
 rw[if_pos hh]at hv
 obtain⟨rh,hL,hok,rfl⟩:=hv
 have gok:(rh.getD jf).ok:=by cases rh with
   | none=>exact(rfl:jf.ok)
   | some g=>exact hok g rfl
 have B20:=ab B4 b20 B4.size
 refine⟨_,_,_,rfl,?_⟩
 intro k7 w7 hk7 hw7
 have b7:=(hw7▸ah w20 _:bW w20 w7)
 have A7:am w7 k7 ai jf.cells:=am.new hk7 hw7
 obtain⟨wx,q1,v1,g1⟩:=aJ.store0 (P:=prog) (cs:=(rh.getD jf).cells) (Hst.len gok) (Hst.one _) A7 rfl
 have bx:bW w20 wx:=Below.put b7 g1 (by omega)
 have Bx:=ab B20 bx B20.size
 have b4x:=ab b20 bx b20.size
 have A3x:=A34.below b4x
 refine⟨wx,q1,rfl,_,_,y.a,y.n,y.c,y.b,y.m,y.e,vj A3x,?_⟩
 refine ax (AR (hr.p.below Bx) (λ_ _=>fp)) ?_
 rintro v w27 ⟨b27,hv⟩
 rw[if_pos hp]at hv
 obtain⟨rp,hP,rfl⟩:=hv
 have B27:=ab Bx b27 Bx.size
 refine⟨_,_,_,rfl,?_⟩
 intro k33 w33 hk33 hw33
 have b33:=(hw33▸ah w27 _:bW w27 w33)
 have B33:=ab B27 b33 B27.size
 have S:Sl cI w33 kj (some ⟨k33,0,none⟩) 2 2 [0,0]:=(Ow.newF (T:=cI) (A:=NoB) (t:=fJ) (l:=[vI 0,vI 0]) (xs:=[0,0]) fG hk33 hw33 ((iK.one (eE (n:=0))).append (iK.one (eE (n:=0)))) (show 2 <=maxLen by decide)).all
 refine ax (Jn S) ?_
 rintro _ w34 ⟨rfl,hw34⟩
 rw[hw34];clear hw34 w34
 have b433:=ab (ab b4x b27 b4x.size) b33 (ab b4x b27 b4x.size).size
 have A33:=A34.below b433
 have A4z:=A4.below b433
 have A7z:=v1.below (ab b27 b33 b27.size)
 refine⟨_,rfl,ae.no (by decide) ⟨rfl,trivial,?_⟩⟩
 have S2:Sl lH w33 kj (some ⟨k3,8,none⟩) 2 2 r.sch:=JK (xs:=r.sch) A33 (λj hj=>by
   match j,hj with
   | 0,_=>rfl
   | 1,_=>rfl
   | j+2,hj=>exact absurd hj (by show ¬ (j+2<2);omega)) (show 2 <=maxLen by decide)
 have S3:Sl lH w33 kj (some ⟨k3,10,none⟩) 3 3 r.crs:=JK (xs:=r.crs) A33 (λj hj=>by
   match j,hj with
   | 0,_=>rfl
   | 1,_=>rfl
   | 2,_=>rfl
   | j+3,hj=>exact absurd hj (by show ¬ (j+3<3);omega)) (show 3 <=maxLen by decide)
 refine ax (Eu S2) ?_
 rintro _ w41 ⟨rfl,hw41⟩
 rw[hw41];clear hw41 w41
 refine⟨_,rfl,rfl,trivial,?_⟩
 refine ax (Eu S3) ?_
 rintro _ w44 ⟨rfl,hw44⟩
 rw[hw44];clear hw44 w44
 refine⟨_,rfl,λW=>W=w33/\∃g t,rh=some g/\rp=some t/\ ¬ (vw r.sch 0<0\/vw r.crs 0<0),⟨λbb W=>W=w33/\bb=(zc r rh rp).isNone,?_,λbb=>aC.of ?_ _⟩,aC.of ?_ _⟩
 · cases rh with
   | none=>exact ae.yes rfl ⟨rfl,rfl⟩
   | some g=>
     refine ae.no rfl ?_
     cases rp with
     | none=>exact ae.yes rfl ⟨rfl,rfl⟩
     | some t=>
       refine ae.no rfl (ae.of (λh=>?_) (λh=>?_)) <;> simp only[dTx,dFx]at h
       · exact⟨rfl,by simp[zc,h]⟩
       · refine⟨rfl,?_⟩
         by_cases h2:vw r.crs 0<0
         · simp[zc,h2]
         · simp[zc,h,h2]
 · rintro wj ⟨hwj,rfl⟩
   rw[hwj];clear hwj wj
   refine ae.of (λh=>?_) (λh=>?_)
   · have hno:zc r rh rp=none:=by simpa using h
     obtain⟨wq,r3,u3,h3⟩:=bQ.store0 (P:=prog) (cs:=Gt.cells) rfl (Req.one _) A4z rfl
     refine⟨wq,r3,_,am.res (bQ.load0 u3 rfl),Below.put B33 h3 (by omega),rh,rp,hL,hok,hP,?_⟩
     rw[hno];rfl
   · refine⟨rfl,?_⟩
     cases rh with
     | none=>simp[zc]at h
     | some g=>
       cases rp with
       | none=>simp[zc]at h
       | some t=>
         refine⟨g,t,rfl,rfl,λhc=>?_⟩
         simp[zc,hc]at h
 · rintro wj ⟨hwj,g,t,rfl,rfl,hno⟩
   rw[hwj];clear hwj wj
   have og:g.ok:=gok
   obtain⟨wq,r3,u3,h3⟩:=bQ.store0 (P:=prog) (cs:=(⟨vw r.sch 0==1,g,t,vw r.crs 0⟩:Req).cells) (Req.len (r:=⟨_,g,_,_⟩) og) (Req.one _) A4z rfl
   refine⟨_,aJ.load0 A7z (Hst.len og),_,Ny og _ _ _ _,wq,r3,_,am.res (bQ.load0 u3 (Req.len (r:=⟨_,g,_,_⟩) og)),Below.put B33 h3 (by omega),some g,some t,hL,hok,hP,?_⟩
   have e:zc r (some g) (some t)=some ⟨vw r.sch 0==1,g,t,vw r.crs 0⟩:=if_neg hno
   rw[e];rfl
theorem Ox:∀{l m:List Txt},l.Pairwise (· < ·)->m.Pairwise (· < ·)->(∀x,x∈l ↔ x∈m)->l=m
 | [],[],_,_,_=>rfl
 | [],y::m,_,_,h=>absurd ((h y).2 List.mem_cons_self) (by simp)
 | x::l,[],_,_,h=>absurd ((h x).1 List.mem_cons_self) (by simp)
 | x::l,y::m,hl,hm,h=>by
   obtain⟨hx,hl'⟩:=List.pairwise_cons.1 hl
   obtain⟨hy,hm'⟩:=List.pairwise_cons.1 hm
   have e:x=y:=by
     rcases List.mem_cons.1 ((h x).1 List.mem_cons_self)with h1|h1
     · exact h1
     · rcases List.mem_cons.1 ((h y).2 List.mem_cons_self)with h2|h2
       · exact h2.symm
       · exact absurd (List.lt_trans (hy x h1) (hx y h2)) (List.lt_irrefl _)
   subst e
   congr 1
   refine Ox hl' hm' λz=>?_
   have hz:=h z
   rw[List.mem_cons,List.mem_cons]at hz
   constructor
   · intro hzl
     rcases hz.1 (.inr hzl)with h1|h1
     · subst h1;exact absurd (hx z hzl) (List.lt_irrefl _)
     · exact h1
   · intro hzm
     rcases hz.2 (.inr hzm)with h1|h1
     · subst h1;exact absurd (hy z hzm) (List.lt_irrefl _)
     · exact h1
def hwn (s:Txt):Hst:=⟨1,s,ad0⟩
theorem vR {L:List Txt}{s:Txt}(hj:Lib.join L [46]=s)(hne:L≠[])(hl:∀x∈L,bs x=true)(hd:cC (th L)=false)(hs:s.length <=253):br (hwn s)=true/\fi (hwn s)=L.reverse:=by
 subst hj
 obtain⟨h1,h2,h3⟩:=ub hne hl hd hs
 have h2':br (hwn (Lib.join L [46]))=true:=h2
 have h3':aH (hwn (Lib.join L [46]))=L:=h3
 refine⟨h2',?_⟩
 unfold fi
 rw[if_pos h2',if_pos (show(hwn (Lib.join L [46])).kind=1 from rfl),h3']
theorem yq {ts:List Txt}(htl:ts.length <=511){h:Hst}(o:h.ok)(hk:(cH ts h).length <=127):xG (chD (ts.length+1) (cH ts h) 0) (cH ts h) 0:=by
 have:=FF (k:=ts.length+1) (by omega) (by omega) (lD ts h) (by omega) 0 (by omega)
 simpa using this
theorem GE {ts:List Txt}(htl:ts.length <=511){h:Hst}(o:h.ok)(hk:(cH ts h).length <=127)(k1:h.kind=1)(b:Bool):xG (xH ts h b) (cH ts h) (if b=true then 1 else 2):=by
 unfold xH
 rw[if_neg (λc=>c k1)]
 cases b with
 | true=>
   rw[if_pos rfl,if_pos rfl]
   have:=FF (k:=ts.length+1) (by omega) (by omega) (lD ts h) (by omega) 1 (by omega)
   simpa using this
 | false=>
   rw[if_neg (by simp),if_neg (by simp)]
   exact PM (by omega) (by omega) (lD ts h) (by omega) rfl rfl
theorem uW {ts:List Txt}{h:Hst}(k1:h.kind≠1):xH ts h true=chD (ts.length+1) (cH ts h) 0/\xH ts h false=noD (ts.length+1):=by
 unfold xH
 rw[if_pos k1,if_pos k1,if_pos rfl,if_neg (by simp)]
 exact⟨rfl,rfl⟩
theorem Pd (ts:List Txt)(h:Hst)(b:Bool):(xH ts h b).k=(ts.length:Int)+1:=by
 have e:((ts.length+1:Nat):Int)=(ts.length:Int)+1:=by omega
 unfold xH
 split
 · split
   · exact e
   · exact e
 · split
   · exact e
   · exact e
theorem QF {ts:List Txt}(htl:ts.length <=511){h:Hst}(o:h.ok)(hk:(cH ts h).length <=127)(b:Bool):(xH ts h b).Ok/\(xH ts h b).n <=(cH ts h).length+3:=by
 by_cases k1:h.kind=1
 · have:=GE htl o hk k1 b
   refine⟨this.ok,?_⟩
   have h2:=this.n
   split at h2 <;> omega
 · obtain⟨e1,e2⟩:=uW (ts:=ts) k1
   cases b with
   | true=>
     rw[e1]
     have:=yq htl o hk
     refine⟨this.ok,?_⟩
     have h2:=this.n
     omega
   | false=>
     rw[e2]
     exact⟨EF (by omega) (by omega),by show 1 <=_;omega⟩
theorem D7 (a:lU){w K}(h:nA w (.cells bA ai) λb c=>∃d,Sv ai (vA b 0) (.agg #[vI 1,vS a,.int .u8 0,.int .u8 0,.int .u8 0,.int .u8 0,.int .u8 0,.int .u8 0,.int .u8 0,.int .u8 0,.int .u8 0,.int .u8 0,.int .u8 0,.int .u8 0,.int .u8 0,.int .u8 0,.int .u8 0,.int .u8 0]) c d/\∃e,Rv ai (vA b 0) d e/\K e d):Cf pV #[vS a] w (Ret K):=ru func76 [] h
theorem ur {w K}(h:nA w (.cells #[vS [104],vS [99,111,109]] au) λa b=>uP gI #[.slice (vA a 0) 2 2] b λc d=>uV pV #[vS [104,46,99,111,109]] d λe f=>∃g,(Instr.build bE #[(2,e),(3,.bool true),(4,vS [47,97]),(8,vI 1)]).run prog f=.ok g f/\Cf rV #[.pointer c,g,vI 0] f λi j=>∃k l,i=rT #[k,vI l]/\nA j (.cells aV aj) λm n=>∃o,Sv aj (vA m 0) k n o/\∃p,Ld aj (vA m 0) o p/\Cf dV #[.pointer c,p] o λq r=>∃s t u,q=rT #[s,.bool t,vI u]/\nA r (.cells dD aq) λv x=>∃y,Sv aq (vA v 0) s x y/\ae (l==(0:Int)) (ae (u==(0:Int)) (ae t (∃z,(∀A,bW y A->Ld aq (vA v 0) A z)/\∃A,(∀B,bW y B->Cf pV #[vS [104,46,99,111,109]] B λC D=>C=.returned A/\Below y.heap.size B D)/\∃B,(∀C,bW y C->(Instr.build aq #[(1,A),(2,vS [47,97])]).run prog C=.ok B C)/\∃C,(∀D,bW y D->(do eqGuard .eql aq (.tmp 33) (.tmp 35) z B;binOp .eql aq z B:Sem Value).run prog D=.ok (.bool C) D)/\∀D,bW y D->K (.bool C) D) (∀z,bW y z->K (.bool false) z)) (∀z,bW y z->K (.bool false) z)) (∀z,bW y z->K (.bool false) z)):Cf du #[] w (Ret K):=ru func33 [] h
theorem C0 (a:Option Addr)(b c:Nat)(d:Option Addr)(e f:Nat){w K}(h:∃g:Nat->FP [.one (.int .i64)],(∃i,g i (0:Int) w)/\∀i j,aC 9 (∀k,g i j k->ae (decide (j<((b:Nat):Int))) ((bx j ((b:Nat):Int)/\Option.isSome a=true)/\∃l,Ld au (ao a j 1) k (vS l)/\ae (decide (((List.length l:Nat):Int)>(70:Int))) (K (.bool true) k) (∃m:Nat,m<i/\g m (i64.wrap (j+(1:Int))) k)) (∃l:Nat->FP [.one (.int .i64)],(∃m,l m (0:Int) k)/\∀m n,aC 9 (∀o,l m n o->ae (decide (n<((e:Nat):Int))) ((bx n ((e:Nat):Int)/\Option.isSome d=true)/\∃p,Ld au (ao d n 1) o (vS p)/\ae (decide (((List.length p:Nat):Int)>(300:Int))) (K (.bool true) o) (∃q:Nat,q<m/\l q (i64.wrap (n+(1:Int))) o)) (K (.bool (decide (((b:Nat):Int)>(16:Int)))) o))))):Cf ji #[.slice a b c,.slice d e f] w (Ret K):=ru func34 [(6,[(11,.one (.int .i64))]),(29,[(21,.one (.int .i64))])] h
theorem yi (s:Txt)(w:World):Cf pV #[vS s] w (Ret λv w'=>v=(hwn s).v/\bW w w'):=by
 apply D7
 intro k2 w2 hk2 hw2
 have hb2:=(hw2▸ah w _:bW w w2)
 have A2:am w2 k2 ai jf.cells:=am.new hk2 hw2
 obtain⟨wx,s1,v1,g1⟩:=aJ.store0 (P:=prog) (cs:=(hwn s).cells) rfl (Hst.one _) A2 rfl
 exact⟨wx,s1,_,am.res (aJ.load0 v1 rfl),rfl,Below.put hb2 g1 (by omega)⟩
def zq (l ts:List Txt):Bool:=(l.any λs=>decide (70<s.length)) || ((ts.any λs=>decide (300<s.length)) || decide (16<l.length))
theorem DO {w:World}{a:Option Addr}{n c:Nat}{l:List Txt}(hs:Sl tS w kj a n c l){a1:Option Addr}{n1 c1:Nat}{ts:List Txt}(hh:Sl tS w kj a1 n1 c1 ts):
   Cf ji #[.slice a n c,.slice a1 n1 c1] w (Ret λv w'=>v=.bool (zq l ts)/\w'=w):=by
 have hn:=hs.len
 have hn1:=hh.len
 subst hn hn1
 have hle:=hs.le
 have hle1:=hh.le
 apply C0
 refine⟨λm i w'=>∃j:Nat,j <=l.length/\i=(j:Int)/\m=l.length-j/\((l.take j).any λs=>decide (70<s.length))=false/\w'=w,⟨_,0,by omega,rfl,rfl,rfl,rfl⟩,?_⟩
 intro m i
 refine aC.of ?_ _
 rintro w' ⟨j,hj,rfl,rfl,hno,hw'⟩
 rw[hw'];clear hw' w'
 refine ae.of (λh=>?_) (λh=>?_) <;> simp only[dTx,dFx]at h
 · have hlt:j<l.length:=by omega
   obtain⟨v,hv,hrep⟩:=hs.load1 (P:=prog) (i:=(j:Int)) aA rfl rfl (by simpa using hlt)
   obtain⟨rfl,_⟩:=xz hrep
   simp only[Int.toNat_natCast]at hv
   refine⟨⟨⟨by omega,h⟩,hs.isSome hlt⟩,_,hv,ae.of (λh2=>⟨?_,rfl⟩) (λh2=>?_)⟩
   · unfold zq
     have:(l.any λs=>decide (70<s.length))=true:=List.any_eq_true.2 ⟨_,List.getElem_mem hlt,by simp only[gt_iff_lt,dTx]at h2 ⊢;omega⟩
     rw[this];rfl
   · refine⟨l.length-(j+1),by omega,j+1,by omega,by rw[wrap_i64 (by omega) (by omega)];omega,rfl,?_,rfl⟩
     simp only[gt_iff_lt,dFx]at h2
     rw[List.take_succ_eq_append_getElem hlt,List.any_append,hno,List.any_cons,List.any_nil,decide_eq_false (show ¬ 70<(l[j]).length by omega)];rfl
 · have:j=l.length:=by omega
   subst this
   rw[List.take_length]at hno
   refine⟨λm i w'=>∃j:Nat,j <=ts.length/\i=(j:Int)/\m=ts.length-j/\((ts.take j).any λs=>decide (300<s.length))=false/\w'=w,⟨_,0,by omega,rfl,rfl,rfl,rfl⟩,?_⟩
   intro m i
   refine aC.of ?_ _
   rintro w' ⟨j,hj',rfl,rfl,hno',hw'⟩
   rw[hw'];clear hw' w'
   refine ae.of (λh3=>?_) (λh3=>?_) <;> simp only[dTx,dFx]at h3
   · have hlt:j<ts.length:=by omega
     obtain⟨v,hv,hrep⟩:=hh.load1 (P:=prog) (i:=(j:Int)) aA rfl rfl (by simpa using hlt)
     obtain⟨rfl,_⟩:=xz hrep
     simp only[Int.toNat_natCast]at hv
     refine⟨⟨⟨by omega,h3⟩,hh.isSome hlt⟩,_,hv,ae.of (λh2=>⟨?_,rfl⟩) (λh2=>?_)⟩
     · unfold zq
       have:(ts.any λs=>decide (300<s.length))=true:=List.any_eq_true.2 ⟨_,List.getElem_mem hlt,by simp only[gt_iff_lt,dTx]at h2 ⊢;omega⟩
       rw[this,hno];rfl
     · refine⟨ts.length-(j+1),by omega,j+1,by omega,by rw[wrap_i64 (by omega) (by omega)];omega,rfl,?_,rfl⟩
       simp only[gt_iff_lt,dFx]at h2
       rw[List.take_succ_eq_append_getElem hlt,List.any_append,hno',List.any_cons,List.any_nil,decide_eq_false (show ¬ 300<(ts[j]).length by omega)];rfl
   · have:j=ts.length:=by omega
     subst this
     rw[List.take_length]at hno'
     refine⟨?_,rfl⟩
     unfold zq
     rw[hno,hno',Bool.false_or,Bool.false_or]
     congr 1
     rw[Bool.eq_iff_iff]
     simp only[gt_iff_lt,dTx]
     omega
section
variable {ts:List Txt} (hp:ts.Pairwise (· < ·)) (htl:ts.length <=511) {h d:Hst} (oh:h.ok) (od:d.ok) (kd:kB ts d=true)
include hp htl oh od kd
theorem JI:(cH ts d).length <=127:=by
 unfold cH
 rw[List.length_map]
 refine EX od ((vn od).1 ((Ew hp d).1 kd).1)
theorem N3:(dm (chD (ts.length+1) (cH ts d) 0) (hwV ts h)=true ↔ cH ts h=cH ts d):=by
 have hl:=JI hp htl oh od kd
 have hc:=yq htl od hl
 have hK:(chD (ts.length+1) (cH ts d) 0).K=ts.length+1:=by simp[DA.K,chD]
 rw[AN,iC hc.ok,hc.lang,hK]
 unfold Ek
 rw[if_pos rfl]
 exact⟨λh=>h.2,λh2=>⟨lD ts h,h2⟩⟩
theorem JH (k1:d.kind=1)(b:Bool):(dm (xH ts d b) (hwV ts h)=true ↔ Ek (if b=true then 1 else 2) (cH ts d) (cH ts h)):=by
 have hl:=JI hp htl oh od kd
 have hc:=GE htl od hl k1 b
 have hK:(xH ts d b).K=ts.length+1:=by unfold DA.K;rw[Pd];omega
 rw[AN,iC hc.ok,hc.lang,hK]
 exact⟨λh=>h.2,λh2=>⟨lD ts h,h2⟩⟩
theorem Dm (rh:br h=true):dm (chD (ts.length+1) (cH ts d) 0) (hwV ts h)=lG h d:=by
 rw[Bool.eq_iff_iff,N3 hp htl oh od kd,dP oh od,<- Mg hp oh od rh ((Ew hp d).1 kd)]
 unfold Ek
 rw[if_pos rfl]
theorem IL (rh:br h=true):dm (xH ts d false) (hwV ts h)=lL h d:=by
 by_cases k1:d.kind=1
 · rw[Bool.eq_iff_iff,JH hp htl oh od kd k1,<- HF hp oh od rh ((Ew hp d).1 kd) k1]
   rw[if_neg (by simp)]
 · rw[(uW k1).2,EU k1]
   rw[Bool.eq_false_iff,AN]
   intro hc
   exact Bu _ _ ((iC (EF (by omega) (by omega)) _).1 hc)
theorem Hx (rh:br h=true):dm (xH ts d true) (hwV ts h)=GT h d:=by
 by_cases k1:d.kind=1
 · rw[Bool.eq_iff_iff,JH hp htl oh od kd k1,<- J9 hp oh od rh ((Ew hp d).1 kd) k1]
   rw[if_pos rfl]
 · rw[(uW k1).1,Dm hp htl oh od kd rh,Bool.eq_iff_iff,dP oh od,Ij oh od rh ((vn od).1 ((Ew hp d).1 kd).1) k1]
end
theorem qk {s:Txt}(hl:s.length <=65534):(dE s).Ok/\(dE s).k=92/\(dE s).st <=1/\(dE s).ac.length <=s.length+2:=by
 by_cases h:kr s=true
 · have hc:=oF h hl
   have hn:=hc.n
   rw[yt]at hn
   have e:dE s=chD 92 (pw s) (((pw s).length+1:Nat):Int):=by unfold dE;rw[if_pos h]
   refine⟨hc.ok,by rw[e];rfl,by rw[e];exact Int.le_refl _,?_⟩
   have:(dE s).ac.length=s.length+2+1/2:=hn
   omega
 · have e:dE s=noD 92:=by unfold dE;rw[if_neg h]
   rw[e]
   exact⟨EF (by omega) (by omega),rfl,by decide,by show 1 <=s.length+2;omega⟩
theorem ui {o:Txt}(hl:o.length <=60000):(cW o).Ok/\(cW o).k=92/\(cW o).ac.length <=o.length+4:=by
 unfold cW
 by_cases h0:o=[]
 · rw[if_pos h0]
   obtain⟨h1,h2,_,h4⟩:=qk (s:=[47]) (by decide)
   exact⟨h1,h2,by have:([47]:Txt).length=1:=rfl;omega⟩
 rw[if_neg h0]
 by_cases h1:o.head?≠some 47
 · rw[if_pos h1]
   exact⟨EF (by omega) (by omega),rfl,by show 1 <=o.length+4;omega⟩
 rw[if_neg h1]
 by_cases h2:o.getLast?=some 47
 · rw[if_pos h2]
   obtain⟨h1,h2,_,h4⟩:=qk (s:=o) (by omega)
   exact⟨h1,h2,by omega⟩
 rw[if_neg h2]
 by_cases h3:kr o=true
 · rw[if_pos h3]
   have hl1:(o++[47]).length=o.length+1:=by simp
   obtain⟨q1,q2,_,q4⟩:=qk (s:=o++[47]) (by omega)
   have e:dE (o++[47])=chD 92 (pw (o++[47])) (((pw (o++[47])).length+1:Nat):Int):=by unfold dE;rw[if_pos (q6 h3)]
   have est:(dE (o++[47])).st=1:=by rw[e];rfl
   have:=Q1 q1 (o.length+1)
   rw[q2,est]at this
   refine⟨this,rfl,?_⟩
   show((dE (o++[47])).ac.set (o.length+1) true).length <=o.length+4
   rw[List.length_set];omega
 · rw[if_neg h3]
   exact⟨EF (by omega) (by omega),rfl,by show 1 <=o.length+4;omega⟩
theorem IK {o p:Txt}(hp:jn p=true)(hl:o.length <=60000):dm (cW o) (p9 p)=vz p o:=by
 rw[tX (jo hp).1,Bool.eq_iff_iff,iC (ui hl).1,xf hp hl]
theorem Ic (s x:Int)(hs:0 <=s/\s <=3)(hx:0 <=x/\x <=2):(if x=0 then true else if x=1 then s !=3 else s==1)=xT s x:=by
 unfold xT
 have h:x=0\/x=1\/x=2:=by omega
 rcases h with rfl|rfl|rfl <;> rfl
theorem NP {ts:List Txt}(hp:ts.Pairwise (· < ·))(htl:ts.length <=511){c:Cky}{q:Req}(oc:c.ok)(oq:q.ok)(kd:kB ts c.host=true)(hs:0 <=c.same/\c.same <=3)(hl:c.path.length <=60000)(now:Int):
   hasB ts (ofR ts c now) q=Ct c q now:=by
 unfold hasB Ct
 cases hq:mi q with
 | false=>rfl
 | true=>
   rw[Bool.true_and,Bool.true_and]
   unfold mi at hq
   simp only[Bool.and_eq_true,dTx]at hq
   obtain⟨rh,pb,x0,x2⟩:=hq
   have rd:br c.host=true:=CG oc kd
   have t1:dm (ofR ts c now).p (p9 q.path)=vz q.path c.path:=IK pb hl
   have t2:dm (ofR ts c now).h (hwV ts q.host)=(!(c.only && !lG c.host q.host)&&GT q.host c.host):=by
     show dm (HU ts c.host c.only) (hwV ts q.host)=_
     unfold HU
     cases ho:c.only with
     | true=>
       rw[if_pos rfl,Dm hp htl oq oc kd rh]
       cases he:lG q.host c.host with
       | true=>
         have e:=(dP oq oc).1 he
         rw[<- e]
         have:lG q.host q.host=true:=(dP oq oq).2 rfl
         unfold GT
         rw[this,rh];rfl
       | false=>
         have:lG c.host q.host=false:=by
           rw[Bool.eq_false_iff]
           intro h
           rw[(dP oc oq).1 h,(dP oq oq).2 rfl]at he
           cases he
         rw[this];rfl
     | false=>
       rw[if_neg (by decide),Hx hp htl oq oc kd rh]
       rfl
   rw[t1,t2]
   unfold vF
   rw[<- Ic c.same q.cross hs ⟨x0,x2⟩]
   have hx:q.cross=0\/q.cross=1\/q.cross=2:=by omega
   show((if q.sec=true then decide (now<c.exp)else decide (now<c.exp) && !c.sec)&&((if q.cross=0 then decide (now<c.exp)else if q.cross=1 then decide (now<c.exp)&&(c.same !=3)else decide (now<c.exp)&&(c.same==1))&&_))=_
   have hlive:decide (now<c.exp)= !decide (now >=c.exp):=by
     rw[Bool.eq_iff_iff];simp
   rw[hlive]
   generalize decide (now >=c.exp)=L
   generalize (!(c.only && !lG c.host q.host))=O
   generalize GT q.host c.host=D
   generalize vz q.path c.path=P
   generalize (c.same !=3)=S3
   generalize (c.same==1)=S1
   generalize c.sec=Z
   generalize q.sec=Y
   rcases hx with h|h|h <;> rw[h] <;> revert L O D P S3 S1 Z Y <;> decide
structure Pat where
 wild:Bool
 host:Hst
 plain:Bool
 sec:Bool
 pre:List UInt8
def Pat.tail (p:Pat):List Value:=[.bool p.plain,.bool p.sec,vS p.pre]
def Pat.cells (p:Pat):List Value:=.bool p.wild::(p.host.cells++p.tail)
def Pat.v (p:Pat):Value:=.agg p.cells.toArray
def Pat.ok (p:Pat):Prop:=p.host.ok
theorem Pat.len {p:Pat}(o:p.ok):p.cells.length=22:=by unfold Pat.cells;rw[List.length_cons,List.length_append,Hst.len o];rfl
theorem Pat.one (p:Pat):DE p.cells:=aW rfl (CN (Hst.one _) (aW rfl (aW rfl (aW rfl jA))))
theorem Bv {p:Pat}(o:p.ok){j:Nat}(h:j<18):p.cells[1+j]? =p.host.cells[j]? :=by
 unfold Pat.cells
 rw[Nat.add_comm,List.getElem?_cons_succ,List.getElem?_append_left (by rw[Hst.len o];exact h)]
theorem mB {p:Pat}(o:p.ok)(j:Nat):p.cells[19+j]? =p.tail[j]? :=by
 unfold Pat.cells
 rw[show 19+j=(18+j)+1 by omega,List.getElem?_cons_succ,List.getElem?_append_right (by rw[Hst.len o];omega),Hst.len o]
 congr 1;omega
def HR (s p:List UInt8):Bool:=decide (((s.length:Nat):Int) >=((p.length:Nat):Int))&&(s.take p.length==p)
theorem Nv (s p:List UInt8):HR s p=true ↔ p <+:s:=by
 unfold HR
 rw[Bool.and_eq_true,dTx,beq_iff_eq,List.prefix_iff_eq_take]
 constructor
 · rintro⟨_,h⟩;exact h.symm
 · intro h
   refine⟨?_,h.symm⟩
   have:=congrArg List.length h
   rw[List.length_take]at this
   omega
def sE (p:Pat)(r:Req):Bool:=HR r.path p.pre&&((if r.sec=true then p.sec else p.plain)&&(if p.wild=true then lL r.host p.host else lG r.host p.host))
theorem Ac:Whl prog bT 22:=⟨⟨_,_,Ed⟩,by kernel_rfl⟩
def E3 (s:List UInt8)(w:World)(v:Value)(w':World):Prop:=if jn s=true then vo w (dE s) v w' else v=.tuple #[daV none 0 0 none 0 0 d0,vI 43]/\bW w w'
theorem KT (s:List UInt8)(hs:s.length <=65534)(w:World):Cf mX #[vS s] w (Ret (E3 s w)):=by
 apply yw
 intro k2 w2 hk2 hw2
 have b2:=(hw2▸ah w _:bW w w2)
 have A2:am w2 k2 af [vI 0,vI 0,.slice none 0 0,.slice none 0 0]:=am.new hk2 hw2
 have hlt:=A2.lt
 refine ax (xE s w2) ?_
 rintro _ w5 ⟨rfl,b5⟩
 have B5:=ab b2 b5 b2.size
 refine⟨_,rfl,ae.of (λh=>?_) (λh=>?_)⟩
 · have h:jn s=false:=by simpa using h
   obtain⟨wx,s1,s2,g1⟩:=cX (A2.below b5) rfl none 0 0 none 0 0 d0
   refine⟨wx,s1,_,_,none,0,0,none,0,0,s2,?_⟩
   unfold E3
   rw[if_neg (by rw[h];decide)]
   exact⟨rfl,Below.put B5 g1 (by omega)⟩
 · have h:jn s=true:=by simpa using h
   refine ax (xO s hs w5) ?_
   rintro _ w9 ⟨a,n,c,b,m,e,rfl,O,b9⟩
   have s5:=b5.size
   obtain⟨wx,s1,s2,g1⟩:=cX ((A2.below b5).below b9) rfl a n c b m e (dE s)
   refine⟨_,_,a,n,c,b,m,e,_,rfl,wx,s1,_,_,a,n,c,b,m,e,s2,?_⟩
   unfold E3
   rw[if_pos h]
   exact⟨a,n,c,b,m,e,rfl,(O.put g1 (by omega)).mono B5.size,Below.put (ab B5 b9 B5.size) g1 (by omega)⟩
def KM (ts:List Txt)(p:Pat):DA:=if p.wild=true then xH ts p.host false else chD (ts.length+1) (cH ts p.host) 0
def Ov (ts:List Txt)(p:Pat):Rgn:=⟨KM ts p,dE p.pre,p.plain,p.sec,true,true,true⟩
set_option maxHeartbeats 1000000 in
theorem zI {c:Pat}(o:c.ok)(hn:c.host.name.length <=1000000)(hp:c.pre.length <=60000){w:World}(he:Env w){p:Option Addr}{ts:List Txt}(hA:gB w p ts)(htl:ts.length <=511):
   Cf mY #[.pointer p,c.v] w (Ret λv w'=>bW w w'/\∃(x y:Rgp) (r:Rgn) (er:Int),v=.tuple #[r.v x y,vI er]/\RgO w.heap.size w' r x y/\(er=0->kB ts c.host=true/\jn c.pre=true/\r=Ov ts c)):=by
 apply yy
 intro k4 w4 hk4 hw4 k6 w6 hk6 hw6
 have b4:=(hw4▸ah w _:bW w w4)
 have b6:=(hw6▸ah w4 _:bW w4 w6)
 have A4:am w4 k4 bT c.cells:=am.new hk4 hw4
 have A6:am w6 k6 aj (rg0.cells rp0 rp0):=am.new hk6 hw6
 have B6:=ab b4 b6 b4.size
 have A46:=A4.below b6
 have s4:=b4.size
 have s6:=B6.size
 have l6:=A6.lt
 refine⟨λv8 W=>W=w6/\v8=.func (.func (if c.wild=true then gj else dF)) #[] #[],⟨rfl,_,A46.load1 bv rfl (i:=0) rfl,ae.of (λh=>⟨rfl,by rw[if_pos h]⟩) (λh=>⟨rfl,by rw[if_neg (by rw[h];decide)]⟩)⟩,λv8=>aC.of ?_ _⟩
 rintro wj ⟨rfl,rfl⟩
 refine⟨rfl,_,aJ.load A46 (i:=1) (us:=c.host.cells) (Hst.len o) (λj hj=>Bv o hj),?_⟩
 have hset:Cf (if c.wild=true then gj else dF) #[.pointer p,c.host.v] wj (Ret (eV (kB ts c.host) (KM ts c) wj)):=by
   unfold KM
   by_cases h:c.wild=true
   · rw[if_pos h,if_pos h];exact AM o hn (he.step B6) (hA.below B6) htl
   · rw[if_neg h,if_neg h];exact vT o hn (he.step B6) (hA.below B6) htl
 have hcal:kF prog (if c.wild=true then gj else dF)=true:=by
   by_cases h:c.wild=true
   · rw[if_pos h];kernel_rfl
   · rw[if_neg h];kernel_rfl
 refine BE.of hcal (ax hset ?_)
 intro v w21 hv
 obtain⟨err,D,a,n,cc,b,m,e,rfl,O,b21,hcase⟩:=JG hv
 refine⟨_,_,a,n,cc,b,m,e,err,rfl,?_⟩
 intro k9 w9 hk9 hw9
 have B21:=ab B6 b21 B6.size
 have b9:=(hw9▸ah w21 _:bW w21 w9)
 have A9:am w9 k9 af [vI 0,vI 0,.slice none 0 0,.slice none 0 0]:=am.new hk9 hw9
 obtain⟨wx,q1,v1,g1⟩:=bG.store0 (P:=prog) (cs:=daL a n cc b m e D) rfl (fM _ _ _ _ _ _ _) A9 rfl
 have bx:bW w21 wx:=Below.put b9 g1 (by omega)
 have Bx:=ab B21 bx B21.size
 have b6x:=ab b21 bx b21.size
 have A4x:=A46.below b6x
 refine⟨wx,q1,rfl,_,A4x.load1 aA rfl (i:=21) (mB o 2),?_⟩
 refine ax (KT c.pre (by omega) wx) ?_
 intro v w27 hv
 unfold E3 at hv
 obtain⟨er2,D2,a1,n1,c1,b1,m1,e1,rfl,O1,b27,hcase2⟩:∃(er2:Int) (D2:DA) (a1:Option Addr) (n1 c1:Nat) (b1:Option Addr) (m1 e1:Nat),v=.tuple #[daV a1 n1 c1 b1 m1 e1 D2,vI er2]/\zb wx.heap.size w27 a1 n1 c1 b1 m1 e1 D2/\bW wx w27/\(jn c.pre=true/\er2=0/\D2=dE c.pre\/er2=43):=by
   by_cases h:jn c.pre=true
   · rw[if_pos h]at hv
     obtain⟨a1,n1,c1,b1,m1,e1,rfl,O1,b27⟩:=hv
     exact⟨0,_,a1,n1,c1,b1,m1,e1,rfl,O1,b27,.inl ⟨h,rfl,rfl⟩⟩
   · rw[if_neg h]at hv
     obtain⟨rfl,b27⟩:=hv
     exact⟨43,d0,none,0,0,none,0,0,rfl,⟨Ow.nil _ _ _ _,Ow.nil _ _ _ _,(λg hg=>by cases hg),bI.none _,bI.none _⟩,b27,.inr rfl⟩
 refine⟨_,_,a1,n1,c1,b1,m1,e1,_,rfl,?_⟩
 intro k11 w11 hk11 hw11
 have B27:=ab Bx b27 Bx.size
 have b11:=(hw11▸ah w27 _:bW w27 w11)
 have A11:am w11 k11 af [vI 0,vI 0,.slice none 0 0,.slice none 0 0]:=am.new hk11 hw11
 obtain⟨wy,q2,v2,g2⟩:=bG.store0 (P:=prog) (cs:=daL a1 n1 c1 b1 m1 e1 D2) rfl (fM _ _ _ _ _ _ _) A11 rfl
 have by_:bW w27 wy:=Below.put b11 g2 (by omega)
 have bxy:=ab b27 by_ b27.size
 have By:=ab Bx bxy Bx.size
 have A4y:=A4x.below bxy
 refine⟨wy,q2,_,_,a,n,cc,b,m,e,bG.load0 (cs:=daL a n cc b m e D) (v1.below bxy) rfl,_,_,a1,n1,c1,b1,m1,e1,bG.load0 (cs:=daL a1 n1 c1 b1 m1 e1 D2) v2 rfl,rfl,_,A4y.load1 bv rfl (i:=19) (mB o 0),rfl,_,A4y.load1 bv rfl (i:=20) (mB o 1),?_⟩
 intro k13 w13 hk13 hw13
 have b13:=(hw13▸ah wy _:bW wy w13)
 have A13:am w13 k13 aj (rg0.cells rp0 rp0):=am.new hk13 hw13
 obtain⟨r,hr⟩:∃r:Rgn,r=⟨D,D2,c.plain,c.sec,true,true,true⟩:=⟨_,rfl⟩
 obtain⟨X,hX⟩:∃X:Rgp,X=⟨a,n,cc,b,m,e⟩:=⟨_,rfl⟩
 obtain⟨Y,hY⟩:∃Y:Rgp,Y=⟨a1,n1,c1,b1,m1,e1⟩:=⟨_,rfl⟩
 obtain⟨wz,q3,v3,g3⟩:=aE.store0 (P:=prog) (cs:=r.cells X Y) rfl (Rgn.one _ _ _) A13 rfl
 have bz:bW wy wz:=Below.put b13 g3 (by omega)
 have Bz:=ab By bz By.size
 have b6z:=ab (ab b6x bxy b6x.size) bz (ab b6x bxy b6x.size).size
 refine⟨wz,by rw[hr,hX,hY]at q3;exact q3,_,aE.load0 v3 rfl,?_⟩
 have herr:i64.wrap err=err:=by rcases hcase with⟨_,h,_⟩|⟨_,h⟩ <;> rw[h] <;> rfl
 have herr2:i64.wrap er2=er2:=by rcases hcase2 with⟨_,h,_⟩|h <;> rw[h] <;> rfl
 refine ax (JJ r X Y err er2 herr herr2 wz) ?_
 rintro _ w53 ⟨b53,rfl⟩
 have B53:=ab Bz b53 Bz.size
 have A6z:=A6.below (ab b6z b53 b6z.size)
 by_cases hz:KE err er2=0
 · rw[if_pos hz]
   obtain⟨wq,r3,u3,h3⟩:=aE.store0 (P:=prog) (cs:=r.cells X Y) rfl (Rgn.one _ _ _) A6z rfl
   refine⟨_,_,rfl,wq,r3,_,am.res (aE.load0 u3 rfl),Below.put B53 h3 (by omega),X,Y,r,0,rfl,?_,?_⟩
   · rw[hr,hX,hY]
     exact⟨(((O.below bx).below (ab bxy bz bxy.size)).below b53 |>.put h3 l6).mono B6.size,(((O1.below by_).below bz).below b53 |>.put h3 (by have:=b6x.size;omega)).mono Bx.size⟩
   · intro _
     rcases hcase with⟨hk,rfl,rfl⟩|⟨_,rfl⟩
     · rcases hcase2 with⟨hp,rfl,rfl⟩|rfl
       · exact⟨hk,hp,hr⟩
       · exact absurd hz (by decide)
     · rcases hcase2 with⟨hp,rfl,rfl⟩|rfl
       · exact absurd hz (by decide)
       · exact absurd hz (by decide)
 · rw[if_neg hz]
   obtain⟨wq,r3,u3,h3⟩:=aE.store0 (P:=prog) (cs:=rg0.cells rp0 rp0) rfl (Rgn.one _ _ _) A6z rfl
   exact⟨_,_,rfl,wq,r3,_,am.res (aE.load0 u3 rfl),Below.put B53 h3 (by omega),rp0,rp0,rg0,_,rfl,RgO.zero _ _,λh=>absurd h hz⟩
theorem P3 {ts:List Txt}(htl:ts.length <=511){p:Pat}(o:p.ok)(kd:kB ts p.host=true):(KM ts p).Ok/\(KM ts p).k=((ts.length+1:Nat):Int)/\(KM ts p).ac.length <=130:=by
 have hl2:=rI ts o kd
 unfold KM
 by_cases h:p.wild=true
 · rw[if_pos h]
   have:=QF htl o hl2 false
   have hn:(xH ts p.host false).ac.length <=(cH ts p.host).length+3:=this.2
   exact⟨this.1,Pd ..,by omega⟩
 · rw[if_neg h]
   have:=yq htl o hl2
   have hn:(chD (ts.length+1) (cH ts p.host) 0).ac.length=(cH ts p.host).length+2+0/2:=this.n
   exact⟨this.ok,rfl,by omega⟩
theorem ML {s p:Txt}(hp:jn p=true)(hl:s.length <=65534):dm (dE s) (p9 p)=HR p s:=by
 rw[tX (jo hp).1,Bool.eq_iff_iff,iC (qk hl).1,BM (jo hp).1 hl,Nv]
theorem Ki {ts:List Txt}(hp:ts.Pairwise (· < ·))(htl:ts.length <=511){c:Pat}{q:Req}(oc:c.ok)(oq:q.ok)(kd:kB ts c.host=true)(hl:c.pre.length <=60000):
   hasB ts (Ov ts c) q=(mi q&&sE c q):=by
 unfold hasB
 cases hq:mi q with
 | false=>rfl
 | true=>
   rw[Bool.true_and,Bool.true_and]
   unfold mi at hq
   simp only[Bool.and_eq_true,dTx]at hq
   obtain⟨rh,pb,x0,x2⟩:=hq
   have t1:dm (Ov ts c).p (p9 q.path)=HR q.path c.pre:=ML pb (by omega)
   have t2:dm (Ov ts c).h (hwV ts q.host)=(if c.wild=true then lL q.host c.host else lG q.host c.host):=by
     show dm (KM ts c) (hwV ts q.host)=_
     unfold KM
     by_cases h:c.wild=true
     · rw[if_pos h,if_pos h];exact IL hp htl oq oc kd rh
     · rw[if_neg h,if_neg h];exact Dm hp htl oq oc kd rh
   rw[t1,t2]
   unfold sE
   have hx:(if q.cross=0 then(Ov ts c).c0 else if q.cross=1 then(Ov ts c).c1 else(Ov ts c).c2)=true:=by
     show(if q.cross=0 then true else if q.cross=1 then true else true)=true
     split <;> (try rfl);split <;> rfl
   rw[hx,Bool.true_and]
   show((if q.sec=true then c.sec else c.plain)&&_)=_
   generalize (if q.sec=true then c.sec else c.plain)=A
   generalize (if c.wild=true then lL q.host c.host else lG q.host c.host)=B
   generalize HR q.path c.pre=C
   revert A B C;decide
theorem Kf {l ts:List Txt}(h:zq l ts=false):(∀x∈l,x.length <=70)/\(∀g∈ts,g.length <=300)/\l.length <=16:=by
 unfold zq at h
 rw[Bool.or_eq_false_iff,Bool.or_eq_false_iff]at h
 obtain⟨h1,h2,h3⟩:=h
 refine⟨λx hx=>?_,λg hg=>?_,by simpa using h3⟩
 · have:=List.any_eq_false.1 h1 x hx
   simpa using this
 · have:=List.any_eq_false.1 h2 g hg
   simpa using this
theorem zS (a:Option Addr)(b c:Nat)(d:Value){w K}(h:nA w (.cells (Value.cells d) aL) λe f=>nA f (.cells aV aj) λg i=>nA i (.cells aV aj) λj k=>uP gI #[.slice a b c] k λl m=>true/\∃n,Ld bE (vA e 0) m n/\true/\true/\∃o,Ld lO (vA e 26) m (vI o)/\Cf rV #[.pointer l,n,vI o] m λp q=>∃r s,p=rT #[r,vI s]/\nA q (.cells aV aj) λt u=>∃v,Sv aj (vA t 0) r u v/\true/\∃x,Ld bT (vA e 29) v x/\Cf mY #[.pointer l,x] v λy z=>∃A B,y=rT #[A,vI B]/\nA z (.cells aV aj) λC D=>∃E,Sv aj (vA C 0) A D E/\∃F:World->Prop,F (World.drew E)/\∃G,(∀H,F H->Ld aj (vA t 0) H G)/\∃H,(∀I,F I->Ld aj (vA C 0) I H)/\ae (s==(0:Int)) (ae (B==(0:Int)) (true/\true/\∃I,(∀J,F J->Ld aw (vA e 24) J (vI I))/\ae (decide (I >=(0:Int))) (true/\true/\∃J,(∀L,F L->Ld aw (vA e 24) L (vI J))/\∃L,Sv aj (vA g 0) G (World.drew E) L/\F L/\∃M,Sv aj (vA j 0) H L M/\F M/\∃N,Rv aj (vA g 0) M N/\∃O,Rv aj (vA j 0) M O/\K (.tuple #[N,O,.bool (decide (J <=(3:Int)))]) M) ((∃J,Sv aj (vA g 0) G (World.drew E) J/\F J/\∃L,Sv aj (vA j 0) H J L/\F L/\∃M,Rv aj (vA g 0) L M/\∃N,Rv aj (vA j 0) L N/\K (.tuple #[M,N,.bool false]) L)/\∃J,Sv aj (vA g 0) G (World.drew E) J/\F J/\(∃L,Sv aj (vA j 0) H J L/\F L/\∃M,Rv aj (vA g 0) L M/\∃N,Rv aj (vA j 0) L N/\K (.tuple #[M,N,.bool false]) L)/\∃L,Sv aj (vA j 0) H J L/\F L/\∃M,Rv aj (vA g 0) L M/\∃N,Rv aj (vA j 0) L N/\K (.tuple #[M,N,.bool false]) L)) ((∃I,Sv aj (vA g 0) G (World.drew E) I/\F I/\∃J,Sv aj (vA j 0) H I J/\F J/\∃L,Rv aj (vA g 0) J L/\∃M,Rv aj (vA j 0) J M/\K (.tuple #[L,M,.bool false]) J)/\∃I,Sv aj (vA g 0) G (World.drew E) I/\F I/\(∃J,Sv aj (vA j 0) H I J/\F J/\∃L,Rv aj (vA g 0) J L/\∃M,Rv aj (vA j 0) J M/\K (.tuple #[L,M,.bool false]) J)/\∃J,Sv aj (vA j 0) H I J/\F J/\∃L,Rv aj (vA g 0) J L/\∃M,Rv aj (vA j 0) J M/\K (.tuple #[L,M,.bool false]) J)) ((∃I,Sv aj (vA g 0) G (World.drew E) I/\F I/\∃J,Sv aj (vA j 0) H I J/\F J/\∃L,Rv aj (vA g 0) J L/\∃M,Rv aj (vA j 0) J M/\K (.tuple #[L,M,.bool false]) J)/\∃I,Sv aj (vA g 0) G (World.drew E) I/\F I/\(∃J,Sv aj (vA j 0) H I J/\F J/\∃L,Rv aj (vA g 0) J L/\∃M,Rv aj (vA j 0) J M/\K (.tuple #[L,M,.bool false]) J)/\∃J,Sv aj (vA j 0) H I J/\F J/\∃L,Rv aj (vA g 0) J L/\∃M,Rv aj (vA j 0) J M/\K (.tuple #[L,M,.bool false]) J)):Cf gu #[.slice a b c,d] w (Ret K):=ru func41 [(4000009,[])] h
structure Cas where
 c:Cky
 p:Pat
def Cas.cells (k:Cas):List Value:=k.c.cells++k.p.cells
def Cas.v (k:Cas):Value:=.agg k.cells.toArray
def Cas.ok (k:Cas):Prop:=k.c.ok/\k.p.ok
theorem Cas.len {k:Cas}(o:k.ok):k.cells.length=51:=by unfold Cas.cells;rw[List.length_append,Cky.len o.1,Pat.len o.2]
theorem ql {k:Cas}(o:k.ok){j:Nat}(h:j<29):k.cells[j]? =k.c.cells[j]? :=by
 unfold Cas.cells
 rw[List.getElem?_append_left (by rw[Cky.len o.1];exact h)]
theorem BP {k:Cas}(o:k.ok)(j:Nat):k.cells[29+j]? =k.p.cells[j]? :=by
 unfold Cas.cells
 rw[List.getElem?_append_right (by rw[Cky.len o.1];omega),Cky.len o.1]
 congr 1;omega
theorem Ql:Whl prog aL 51:=⟨⟨_,_,uy⟩,by kernel_rfl⟩
def Rg2 (ts:List Txt)(k:Cas)(x y:Rgn):Prop:=kB ts k.c.host=true/\x=ofR ts k.c k.c.born/\kB ts k.p.host=true/\jn k.p.pre=true/\y=Ov ts k.p/\0 <=k.c.same/\k.c.same <=3
def HV (ts:List Txt)(k:Cas)(w:World)(v:Value)(w':World):Prop:=bW w w'/\
 ∃(x y:Rgn) (X1 X2 Y1 Y2:Rgp) (bb:Bool),v=.tuple #[x.v X1 X2,y.v Y1 Y2,.bool bb]/\RgS w' x X1 X2/\RgS w' y Y1 Y2/\(bb=true->Rg2 ts k x y)
set_option maxHeartbeats 1000000 in
theorem AO {w:World}(he:Env w){a:Option Addr}{n c:Nat}{l:List Txt}(hs:Sl tS w kj a n c l)(hl:l.length <=500){k:Cas}(o:k.ok)(h1:k.c.host.name.length <=1000000)(h2:k.c.path.length <=60000)(h3:k.p.host.name.length <=1000000)(h4:k.p.pre.length <=60000):
   Cf gu #[.slice a n c,k.v] w (Ret (HV (pZ l) k w)):=by
 apply zS
 intro k3 w3 hk3 hw3 k4 w4 hk4 hw4 k5 w5 hk5 hw5
 have b3:=(hw3▸ah w _:bW w w3)
 have b4:=(hw4▸ah w3 _:bW w3 w4)
 have b5:=(hw5▸ah w4 _:bW w4 w5)
 have s3:=b3.size
 have s4:=b4.size
 have A3:am w5 k3 aL k.cells:=((am.new hk3 hw3:am w3 k3 aL k.cells).below b4).below b5
 have A4:am w5 k4 aj (rg0.cells rp0 rp0):=(am.new hk4 hw4:am w4 k4 aj (rg0.cells rp0 rp0)).below b5
 have A5:am w5 k5 aj (rg0.cells rp0 rp0):=am.new hk5 hw5
 have l3:k3<k4:=by rw[hk4];exact(am.new hk3 hw3:am w3 k3 aL k.cells).lt
 have l4:k4<k5:=by rw[hk5];exact(am.new hk4 hw4:am w4 k4 aj (rg0.cells rp0 rp0)).lt
 have l5:=A5.lt
 have B5:=ab (ab b3 b4 s3) b5 (ab b3 b4 s3).size
 refine ax (sA a n c l (by omega) w5 (hs.below B5)) ?_
 rintro _ w13 ⟨p,rfl,hA,b13⟩
 have B13:=ab B5 b13 B5.size
 obtain⟨ts,hts⟩:∃ts,ts=pZ l:=⟨_,rfl⟩
 rw[<- hts]at hA
 rw[<- hts]
 have htl:ts.length <=500:=by rw[hts];exact Nat.le_trans (sq l) hl
 have A3x:=A3.below b13
 refine⟨p,rfl,rfl,_,uQ.load A3x (i:=0) (us:=k.c.cells) (Cky.len o.1) (λj hj=>by rw[Nat.zero_add];exact ql o hj),rfl,rfl,_,A3x.load1 kZ rfl (i:=26) ((ql o (by decide)).trans (cO o.1 6)),?_⟩
 refine ax (Ar o.1 h1 h2 (he.step B13) hA (by omega) k.c.born) ?_
 rintro v w21 ⟨b21,hv⟩
 have B21:=ab B13 b21 B13.size
 obtain⟨x,X1,X2,er,rfl,hx,hxc⟩:∃(x:Rgn) (X1 X2:Rgp) (er:Int),v=.tuple #[x.v X1 X2,vI er]/\RgO w13.heap.size w21 x X1 X2/\(er=0->kB ts k.c.host=true/\x=ofR ts k.c k.c.born):=by
   by_cases h:kB ts k.c.host=true
   · rw[if_pos h]at hv
     obtain⟨X,Y,rfl,hO⟩:=hv
     exact⟨_,X,Y,0,rfl,hO,λ_=>⟨h,rfl⟩⟩
   · rw[if_neg h]at hv
     exact⟨rg0,rp0,rp0,181,hv,RgO.zero _ _,λh=>absurd h (by decide)⟩
 refine⟨_,er,rfl,?_⟩
 intro k8 w8 hk8 hw8
 have b8:=(hw8▸ah w21 _:bW w21 w8)
 obtain⟨wx,q1,v1,g1⟩:=aE.store0 (P:=prog) (cs:=x.cells X1 X2) rfl (Rgn.one _ _ _) (am.new hk8 hw8:am w8 k8 aj (rg0.cells rp0 rp0)) rfl
 have bx:bW w21 wx:=Below.put b8 g1 (by omega)
 have Bx:=ab B21 bx B21.size
 have b13x:=ab b21 bx b21.size
 have A3y:=A3x.below b13x
 refine⟨wx,q1,rfl,_,Ac.load A3y (i:=29) (us:=k.p.cells) (Pat.len o.2) (λj hj=>BP o j),?_⟩
 refine ax (zI o.2 h3 h4 (he.step Bx) (hA.below b13x) (by omega)) ?_
 rintro _ w28 ⟨b28,Y1,Y2,y,ey,rfl,hy,hyc⟩
 refine⟨_,ey,rfl,?_⟩
 intro k10 w10 hk10 hw10
 have b10:=(hw10▸ah w28 _:bW w28 w10)
 obtain⟨wy,q2,v2,g2⟩:=aE.store0 (P:=prog) (cs:=y.cells Y1 Y2) rfl (Rgn.one _ _ _) (am.new hk10 hw10:am w10 k10 aj (rg0.cells rp0 rp0)) rfl
 have by_:bW w28 wy:=Below.put b10 g2 (by omega)
 have bxd:=(ab b28 by_ b28.size).drew
 have b28d:=by_.drew
 have b13d:=ab b13x bxd b13x.size
 have b5d:=ab b13 b13d b13.size
 have Bd:=ab B5 b5d B5.size
 obtain⟨u0,hu0⟩:∃u0,u0=wy.drew:=⟨_,rfl⟩
 rw[<- hu0]at bxd b28d b13d b5d Bd
 have D3:=A3.below b5d
 have D4:=A4.below b5d
 have D5:=A5.below b5d
 have D8:=v1.below bxd
 have D10:am u0 k10 aj (y.cells Y1 Y2):=by rw[hu0];exact v2.below (bg wy)
 have sz13:=b13.size
 have szx:=b13x.size
 have sz21:=b21.size
 have sz28:=b28.size
 have nn:∀{z:Nat},z≠k4->z≠k5->z ∉ [k4,k5]:=λh1 h2 h=>by
   rcases List.mem_cons.1 h with h|h
   · exact h1 h
   · exact h2 (List.mem_singleton.1 h)
 have ld:=fun(u:World) (hu:Chg [k4,k5] u0 u)=>hu.arr D3 (nn (by omega) (by omega))
 obtain⟨w1,s1,u1,gr1⟩:=aE.store0 (P:=prog) (cs:=x.cells X1 X2) rfl (Rgn.one _ _ _) D4 rfl
 have C1:Chg [k4,k5] u0 w1:=Chg.grown gr1 (List.mem_cons_self ..)
 obtain⟨w2,s2',u2,gr2⟩:=aE.store0 (P:=prog) (cs:=y.cells Y1 Y2) rfl (Rgn.one _ _ _) (D5.grown gr1 (fH (by omega))) rfl
 have C2:Chg [k4,k5] u0 w2:=C1.trans (Chg.grown gr2 (List.mem_cons_of_mem _ (List.mem_singleton.2 rfl)))
 have u1':=u1.grown gr2 (fH (by omega))
 have Ex:=(((hx.below bx).below bxd).put gr1 (by omega)).put gr2 (by omega)
 have Ey:=((hy.below b28d).put gr1 (by omega)).put gr2 (by omega)
 have Bw:bW w w2:=Below.put (Below.put Bd gr1 (by omega)) gr2 (by omega)
 have fin:∀bb:Bool,(bb=true->Rg2 ts k x y)->HV ts k w (.tuple #[x.v X1 X2,y.v Y1 Y2,.bool bb]) w2:=λbb hb=>⟨Bw,x,y,X1,X2,Y1,Y2,bb,rfl,Ex.s,Ey.s,hb⟩
 have st2:=fun(bb:Bool) (hb:bb=true->Rg2 ts k x y)=>(⟨w2,s2',C2,_,am.res (aE.load0 u1' rfl),_,am.res (aE.load0 u2 rfl),fin bb hb⟩:∃(wx_5:World),(Instr.storeAt aj (.pointer (some ⟨k5,0,none⟩)) (y.v Y1 Y2)).run prog w1=.ok () wx_5/\Chg [k4,k5] u0 wx_5/\
   ∃(vr0:Value),(aR aj (.pointer (some ⟨k4,0,none⟩))).run prog wx_5=.ok vr0 wx_5/\∃(vr1:Value),(aR aj (.pointer (some ⟨k5,0,none⟩))).run prog wx_5=.ok vr1 wx_5/\HV ts k w (.tuple #[vr0,vr1,.bool bb]) wx_5)
 have no:=st2 false λh=>by cases h
 refine⟨wy,q2,?_⟩
 rw[<- hu0]
 refine⟨λu=>Chg [k4,k5] u0 u,Chg.refl _ _,_,λu hu=>aE.load0 (hu.arr D8 (nn (by omega) (by omega))) rfl,_,λu hu=>aE.load0 (hu.arr D10 (nn (by omega) (by omega))) rfl,ae.of (λe1=>ae.of (λe2=>⟨rfl,rfl,k.c.same,λu hu=>(ld u hu).load1 aB rfl (i:=24) ((ql o (by decide)).trans (cO o.1 4)),ae.of (λe3=>⟨rfl,rfl,k.c.same,λu hu=>(ld u hu).load1 aB rfl (i:=24) ((ql o (by decide)).trans (cO o.1 4)),w1,s1,C1,st2 _ λe4=>?_⟩) (λ_=>⟨⟨w1,s1,C1,no⟩,w1,s1,C1,no,no⟩)⟩) (λ_=>⟨⟨w1,s1,C1,no⟩,w1,s1,C1,no,no⟩)) (λ_=>⟨⟨w1,s1,C1,no⟩,w1,s1,C1,no,no⟩)⟩
 have e1:er=0:=by simpa using e1
 have e2:ey=0:=by simpa using e2
 simp only[dTx]at e3 e4
 obtain⟨hy1,hy2,hy3⟩:=hyc e2
 exact⟨(hxc e1).1,(hxc e1).2,hy1,hy2,hy3,e3,e4⟩
def xpR:List Txt:=[[99,111,109],[104]]
theorem PA:pZ [[104],[99,111,109]]=xpR:=Ox (xy _) (by decide) λx=>by
 rw[Jz];unfold xpR;simp only[List.mem_cons,List.not_mem_nil,or_false];exact Or.comm
theorem On:fi (hwn [104,46,99,111,109])=[[99,111,109],[104]]:=
 (vR (L:=[[104],[99,111,109]]) (by rw[Lib.join_cons];rfl) (by simp) (by decide) (by decide) (by decide)).2
theorem Lx:br (hwn [104,46,99,111,109])=true:=
 (vR (L:=[[104],[99,111,109]]) (by rw[Lib.join_cons];rfl) (by simp) (by decide) (by decide) (by decide)).1
theorem Fo:jn [47,97]=true:=by decide
def Im:Hst:=hwn [104,46,99,111,109]
theorem Lv:hwV xpR Im=[0,1]:=by
 unfold hwV Im
 rw[On]
 decide
theorem QQ:kB xpR Im=true:=by
 unfold kB
 rw[Lv]
 decide
theorem Cj:cH xpR Im=[0,1]:=by
 have h:=Lv
 rw[AN]at h
 have:=congrArg (List.map Int.toNat) h
 rw[List.map_map]at this
 have e:(Int.toNat ∘ fun(x:Nat)=>(x:Int))=id:=funext λx=>Int.toNat_natCast x
 rw[e,List.map_id]at this
 exact this
def Jk:Cky:=⟨[],[],Im,true,[47,97],false,false,0,1,0,0,0⟩
theorem Kb (w:World):(Instr.build bE #[(2,Im.v),(3,.bool true),(4,vS [47,97]),(8,vI 1)]).run prog w=.ok Jk.v w:=by kernel_rfl
def Nc:Req:=⟨false,Im,[47,97],0⟩
theorem Kc (w:World):(Instr.build aq #[(1,Im.v),(2,vS [47,97])]).run prog w=.ok Nc.v w:=by kernel_rfl
theorem NJ:(ofR xpR Jk 0).h=chD 3 [0,1] 0:=by
 show chD (xpR.length+1) (cH xpR Im) 0=_
 rw[Cj];rfl
theorem Ji:xG (ofR xpR Jk 0).h [0,1] 0:=by
 have h:=yq (ts:=xpR) (by decide) (h:=Im) rfl (by rw[Cj];decide)
 rw[Cj]at h
 rw[NJ];exact h
theorem QP:hB xpR (ofR xpR Jk 0).h=true:=by
 unfold hB
 rw[di.2 Ji.ok,NJ];rfl
theorem QR:pB (ofR xpR Jk 0).p=true:=by
 have h:=ui (o:=[47,97]) (by decide)
 unfold pB
 show(okD (cW [47,97])&&decide ((cW [47,97]).k=92))=true
 rw[di.2 h.1,h.2.1];rfl
theorem NH:Few (ofR xpR Jk 0).h (Bi xpR):=by
 refine zm Ji.ok (Fe (by decide)) (by rw[NJ];rfl) ?_
 have h1:=Ji.n
 have h2:(Bi xpR).n=4:=rfl
 rw[h1,h2];decide
theorem NI:Few (ofR xpR Jk 0).p (dE [47]):=by
 have h:=ui (o:=[47,97]) (by decide)
 have h2:=qk (s:=[47]) (by decide)
 refine zm (a:=cW [47,97]) h.1 h2.1 (by rw[h.2.1,h2.2.1]) ?_
 have h3:(cW [47,97]).n <=6:=h.2.2
 have h4:(dE [47]).n <=3:=h2.2.2.2
 have:=Nat.mul_le_mul h3 h4
 omega
theorem QS:[0,1].map (tx xpR)=[[99,111,109],[104]]:=by decide
theorem Jj:eM ([0,1].map (tx xpR))=some Im/\ng ([0,1].map (tx xpR)):=by
 rw[QS]
 have h:=Cz (h:=Im) rfl Lx
 have e:fi Im=[[99,111,109],[104]]:=On
 rwa [e]at h
theorem Lt {L:List Nat->Prop}(hL:∀v,L v ↔ v=[0,1]){r:Option Hst}(hr:oB xpR L r):r=some Im:=by
 cases r with
 | none=>
   have h1:=hr [0,1] ((hL _).2 rfl) Jj.2
   have e0:fL (ku xpR) [0,1]=6:=by decide
   omega
 | some g=>
   obtain⟨v,h1,_,h3⟩:=hr
   have e:=(hL v).1 h1.1.1
   subst e
   rw[<- h3,Jj.1]
theorem Lu (v:List Nat):(ofR xpR Jk 0).h.Lang (ofR xpR Jk 0).h.s v ↔ v=[0,1]:=by
 have hK:(ofR xpR Jk 0).h.K=3:=by rw[NJ];rfl
 rw[Ji.lang v,hK]
 unfold Ek
 rw[if_pos rfl]
 exact⟨λh=>h.2,λh=>⟨by rw[h];decide,h⟩⟩
theorem Lw:vz [47,97] [47,97]=true:=by decide
theorem Ka {r:Option (List UInt8)}(h:j6 ((cW [47,97]).Lang (cW [47,97]).s) r):r=some [47,97]:=by
 have hK:(cW [47,97]).K=92:=by unfold DA.K;rw[(ui (o:=[47,97]) (by decide)).2.1];rfl
 have hL:∀v,(cW [47,97]).Lang (cW [47,97]).s v->∀x∈v,x<92:=λv hv x hx=>by have:=hv.1 x hx;omega
 have h0:=(xf (o:=[47,97]) Fo (by decide)).2 Lw
 cases r with
 | none=>exact absurd h0 (Hg hL h Fo)
 | some p=>
   obtain⟨h1,h2,h3⟩:=EI hL h
   have h4:=(xf h1 (by decide)).1 h2
   have h5:=h3 [47,97] Fo h0
   unfold vz at h4
   rw[Bool.or_eq_true,beq_iff_eq,Bool.and_eq_true,dTx]at h4
   rcases h4 with h4|h4
   · rw[h4]
   · have:=h4.1
     simp only[List.length_cons,List.length_nil]at this h5
     omega
theorem PB:zc (ofR xpR Jk 0) (some Im) (some [47,97])=some Nc:=rfl
def N2 (r q:Req):Bool:=(r.sec==q.sec)&&(lG r.host q.host&&((r.path==q.path)&&((r.cross==q.cross)&&true)))
theorem CT {u v:Req}(o:u.ok)(p:v.ok):N2 u v=true ↔ u=v:=by
 unfold N2
 simp only[Bool.and_eq_true,beq_iff_eq,and_true,dP o p]
 cases u;cases v;simp
theorem Px {c d:Req}(o:c.ok)(p:d.ok):eqV prog 10000 aq c.v d.v=some (N2 c d):=by
 obtain⟨d1,⟨e1,e2,e3⟩,d2,d3⟩:=c
 obtain⟨d1',⟨e1',e2',e3'⟩,d2',d3'⟩:=d
 obtain⟨x0,x1,x2,x3,x4,x5,x6,x7,x8,x9,x10,x11,x12,x13,x14,x15,rfl⟩:=Ez e3 o
 obtain⟨y0,y1,y2,y3,y4,y5,y6,y7,y8,y9,y10,y11,y12,y13,y14,y15,rfl⟩:=Ez e3' p
 kernel_rfl
theorem LH:prog.eqGuardType prog.depth aq=false:=by kernel_rfl
theorem Mu {c d:Req}(o:c.ok)(p:d.ok){x y:Operand}(w:World):((do eqGuard .eql aq x y c.v d.v;binOp .eql aq c.v d.v:Sem Value)).run prog w=.ok (.bool (N2 c d)) w:=
 CW LH (Px o p) w
set_option maxHeartbeats 1000000 in
theorem DP {w:World}(he:Env w):Cf du #[] w (Ret λv w'=>v=.bool true/\bW w w'):=by
 apply ur
 intro k7 w7 hk7 hw7
 have b7:=(hw7▸ah w _:bW w w7)
 have O:Ow tS au w7 NoB (some ⟨k7,0,none⟩) 2 2 [[104],[99,111,109]]:=
   Ow.newF (l:=[vS [104],vS [99,111,109]]) (T:=tS) (j5 _) hk7 hw7 (j1 (e:=λs=>vS s) (h1:=λ_=>rfl) (p:=λ_=>True) (xs:=[[104],[99,111,109]]) (λ_ _=>trivial)) (show 2 <=maxLen by decide)
 refine ax (sA _ 2 2 [[104],[99,111,109]] (by decide) w7 O.all) ?_
 rintro _ w8 ⟨p,rfl,hA,b8⟩
 rw[PA]at hA
 have B8:=ab b7 b8 b7.size
 refine⟨p,rfl,?_⟩
 refine ax (yi [104,46,99,111,109] w8) ?_
 rintro _ w11 ⟨rfl,b11⟩
 have B11:=ab B8 b11 B8.size
 refine⟨_,rfl,_,Kb w11,?_⟩
 refine ax (Ar (c:=Jk) rfl (by decide) (by decide) (he.step B11) (hA.below b11) (by decide) 0) ?_
 rintro v w13 ⟨b13,hv⟩
 rw[if_pos (show kB xpR Jk.host=true from QQ)]at hv
 obtain⟨x,y,rfl,hO⟩:=hv
 have hS:=hO.s
 have B13:=ab B11 b13 B11.size
 refine⟨_,0,rfl,?_⟩
 intro k2 w2 hk2 hw2
 have b2:=(hw2▸ah w13 _:bW w13 w2)
 have A2:am w2 k2 aj (rg0.cells rp0 rp0):=am.new hk2 hw2
 obtain⟨wx,q1,v1,g1⟩:=aE.store0 (P:=prog) (cs:=(ofR xpR Jk 0).cells x y) rfl (Rgn.one _ _ _) A2 rfl
 have bx:bW w13 wx:=Below.put b2 g1 (by omega)
 have Bx:=ab B13 bx B13.size
 refine⟨wx,q1,_,aE.load0 v1 rfl,?_⟩
 refine ax (mg (he.step Bx) (((hA.below b11).below b13).below bx) (by decide) (by decide) (hS.below bx) QP QR NH NI) ?_
 rintro v w19 ⟨b19,rh,rp,hL,hok,hP,rfl⟩
 have B19:=ab Bx b19 Bx.size
 obtain rfl:=Lt Lu hL
 obtain rfl:=Ka hP
 rw[PB]
 refine⟨Nc.v,true,0,rfl,?_⟩
 intro k4 w4 hk4 hw4
 have b4:=(hw4▸ah w19 _:bW w19 w4)
 have A4:am w4 k4 aq Gt.cells:=am.new hk4 hw4
 obtain⟨wy,q2,v2,g2⟩:=bQ.store0 (P:=prog) (cs:=Nc.cells) (Req.len (r:=Nc) rfl) (Req.one _) A4 rfl
 have by_:bW w19 wy:=Below.put b4 g2 (by omega)
 have By:=ab B19 by_ B19.size
 refine⟨wy,q2,ae.yes rfl (ae.yes rfl (ae.yes rfl ⟨_,λu hu=>bQ.load0 (v2.below hu) (Req.len (r:=Nc) rfl),_,λu hu=>iU (yi [104,46,99,111,109] u) hu,_,λu hu=>Kc u,_,λu hu=>Mu (c:=Nc) (d:=Nc) rfl rfl u,λwq hq=>⟨?_,ab By hq By.size⟩⟩))⟩
 rw[(CT (u:=Nc) (v:=Nc) rfl rfl).2 rfl]
open Go.ChangeMaps (setBlock)
section
variable {α β:Type} [DecidableEq α]
def wO (ek:α->Value)(ev:β->Value)(w:World)(r:Nat)(kvs:List (α×β)):Prop:=
 ∃es clock,w.heap[r]? =some (.map es clock)/\KVg ek ev es.toList kvs/\(es.toList.map (·.born)).Nodup/\∀e∈es.toList,e.born<clock
variable {ek:α->Value} {ev:β->Value}
theorem wO.g {w:World}{r:Nat}{kvs:List (α×β)}(h:wO ek ev w r kvs):Ah ek ev w r kvs:=by
 obtain⟨es,c,hh,hk,_⟩:=h
 exact⟨es,c,hh,hk⟩
theorem wO.lt {w:World}{r:Nat}{kvs:List (α×β)}(h:wO ek ev w r kvs):r<w.heap.size:=h.g.lt
theorem wO.keep {w w':World}{r:Nat}{kvs:List (α×β)}(h:wO ek ev w r kvs)(hb:w'.heap[r]? =w.heap[r]?):wO ek ev w' r kvs:=by
 obtain⟨es,c,hh,hk⟩:=h
 exact⟨es,c,hb.trans hh,hk⟩
theorem wO.below {w w':World}{r:Nat}{kvs:List (α×β)}(h:wO ek ev w r kvs)(hb:bW w w'):wO ek ev w' r kvs:=h.keep (hb.block r h.lt)
theorem wO.grown {w w':World}{r:Nat}{kvs:List (α×β)}(h:wO ek ev w r kvs){k:Nat}(hg:w.grownBy w' (some k))(hne:r≠k):wO ek ev w' r kvs:=h.keep (hg.block r h.lt λe=>hne (Option.some.inj e))
theorem wO.new {w w':World}{r:Nat}(hr:r=w.heap.size)(hw:w'=w.alloc (.map #[] 0)):wO ek ev w' r []:=by
 subst hr hw
 exact⟨#[],0,heap_alloc_new w _,rfl,List.nodup_nil,λe he=>by cases he⟩
theorem PO {es:List MapEntry}{kvs:List (α×β)}(h:KVg ek ev es kvs):es.length=kvs.length:=by
 have:=congrArg List.length h
 simpa using this
theorem EN {P:Program}{w:World}{r:Nat}{es:Array MapEntry}{c:Nat}(h:w.heap[r]? =some (.map es c))(o:Obj):(setObj r o).run P w=.ok () { w with heap:=w.heap.setIfInBounds r o } :=by
 simp only[setObj,Sem.run,h]
theorem Cu {w:World}{r:Nat}(o:Obj):w.grownBy { w with heap:=w.heap.setIfInBounds r o } (some r):=
 ⟨rfl,rfl,rfl,by simp,λj hj hne=>by
   have:r≠j:=λe=>hne (by rw[e])
   simp[Array.getElem?_setIfInBounds_ne this]⟩
def upG (k:α)(v:β)(kvs:List (α×β)):List (α×β):=match mL k kvs 0 with
 | some (i,_)=>kvs.set i (k,v)
 | none=>kvs++[(k,v)]
theorem CJ (k:α):∀(l:List (α×β)) (i j:Nat) (v:β),mL k l i=some (j,v)->i <=j/\l[j-i]? =some (k,v)
 | [],i,j,v,h=>by cases h
 | (k',v')::l,i,j,v,h=>by
   unfold mL at h
   split at h
   · rename_i e
     subst e
     cases h
     exact⟨Nat.le_refl _,by rw[Nat.sub_self];rfl⟩
   · obtain⟨h1,h2⟩:=CJ k l (i+1) j v h
     refine⟨by omega,?_⟩
     rw[show j-i=(j-(i+1))+1 by omega,List.getElem?_cons_succ]
     exact h2
theorem Kp {es:List MapEntry}{kvs:List (α×β)}(h:KVg ek ev es kvs){i:Nat}{k:α}{v v':β}(hi:kvs[i]? =some (k,v'))(f:MapEntry->MapEntry)(hf:∀e,e.key=ek k->(f e).key=ek k/\(f e).val=ev v):KVg ek ev (es.modify i f) (kvs.set i (k,v)):=by
 unfold KVg at h ⊢
 apply List.ext_getElem?
 intro j
 have hj:=congrArg (λl=>l[j]?) h
 simp only[List.getElem?_map]at hj ⊢
 rw[List.getElem?_modify,List.getElem?_set]
 by_cases e:i=j
 · subst e
   rw[if_pos rfl]
   rw[hi]at hj
   cases he:es[i]? with
   | none=>rw[he]at hj;cases hj
   | some x=>
     rw[he]at hj
     have hx:x.key=ek k:=congrArg Prod.fst (Option.some.inj hj)
     obtain⟨f1,f2⟩:=hf x hx
     have hlt:i<kvs.length:=(List.getElem?_eq_some_iff.1 hi).1
     rw[if_pos hlt]
     simp[f1,f2]
 · rw[if_neg e]
   cases he:es[j]? with
   | none=>rw[he]at hj;simpa using hj
   | some x=>rw[he]at hj;simpa[e]using hj
theorem BN (es:List MapEntry)(i:Nat)(f:MapEntry->MapEntry)(hf:∀e,(f e).born=e.born):(es.modify i f).map (·.born)=es.map (·.born):=by
 apply List.ext_getElem?
 intro j
 rw[List.getElem?_map,List.getElem?_map,List.getElem?_modify]
 cases es[j]? with
 | none=>rfl
 | some x=>by_cases e:i=j <;> simp[e,hf]
theorem Ph {es es':List MapEntry}{c:Nat}(h:∀e∈es,e.born<c)(he:es'.map (·.born)=es.map (·.born)):∀e∈es',e.born<c:=λe hm=>by
 have:e.born∈es.map (·.born):=by rw[<- he];exact List.mem_map.2 ⟨e,hm,rfl⟩
 obtain⟨x,hx,hxe⟩:=List.mem_map.1 this
 rw[<- hxe];exact h x hx
theorem stays {P:Program}{v:Value}(h:Instr.sameBits 10000 v v=true)(w:World):(Instr.keyThatStays v v).run P w=.ok v w:=by
 unfold Instr.keyThatStays
 rw[if_pos h];rfl
theorem wO.up {P:Program}{mt kt et:TypeId}(hm:P.underlying mt=some (.map kt et))(hk:wN P kt ek)(hs:∀k,Instr.sameBits 10000 (ek k) (ek k)=true){w:World}{r:Nat}{kvs:List (α×β)}(h:wO ek ev w r kvs)(k:α)(v:β):
   ∃w',(Instr.mapUpdate mt (.map (some r)) (ek k) (ev v)).run P w=.ok () w'/\wO ek ev w' r (upG k v kvs)/\w.grownBy w' (some r):=by
 obtain⟨es,c,hh,hkv,hn,hc⟩:=h
 have hlt:r<w.heap.size:=(Array.getElem?_eq_some_iff.1 hh).1
 unfold Instr.mapUpdate upG
 cases hi:mL k kvs 0 with
 | none=>
   refine⟨_,?_,⟨es.push { key:=ek k,val:=ev v,born:=c },c+1,?_,?_,?_,?_⟩,Cu (.map (es.push { key:=ek k,val:=ev v,born:=c }) (c+1))⟩
   · simp only[Sem.run_bind,bD hm,Result.andThen_ok,zo hh,hk.check,hk.find ev k _ _ _ hkv,hi,Option.map_none,EN hh]
   · simp[hlt]
   · unfold KVg at hkv ⊢
     simp only[Array.toList_push,List.map_append,List.map_cons,List.map_nil,hkv]
   · rw[Array.toList_push,List.map_append,List.nodup_append]
     refine⟨hn,by simp,λa ha b hb=>?_⟩
     obtain⟨e,he,rfl⟩:=List.mem_map.1 ha
     simp only[List.map_cons,List.map_nil,List.mem_singleton]at hb
     have:=hc e he
     omega
   · intro e he
     rw[Array.toList_push]at he
     rcases List.mem_append.1 he with he|he
     · have:=hc e he;omega
     · rw[List.mem_singleton.1 he];exact Nat.lt_succ_self _
 | some p=>
   obtain⟨i,v'⟩:=p
   obtain⟨_,hat⟩:=CJ k kvs 0 i v' hi
   rw[Nat.sub_zero]at hat
   have hkey:((es[i]?).map (·.key)).getD (ek k)=ek k:=by
     have:=congrArg (λl=>l[i]?) hkv
     simp only[List.getElem?_map,hat,Array.getElem?_toList]at this
     cases he:es[i]? with
     | none=>rfl
     | some x=>
       rw[he]at this
       exact congrArg Prod.fst (Option.some.inj this)
   refine⟨_,?_,⟨es.modify i (λe=> { e with key:=ek k,val:=ev v }),c,?_,?_,?_,?_⟩,Cu (.map (es.modify i λe=> { e with key:=ek k,val:=ev v }) c)⟩
   · simp only[Sem.run_bind,bD hm,Result.andThen_ok,zo hh,hk.check,hk.find ev k _ _ _ hkv,hi,Option.map_some,hkey,stays (hs k),EN hh]
   · simp[hlt]
   · rw[Array.toList_modify];exact Kp hkv hat _ λe _=>⟨rfl,rfl⟩
   · rw[Array.toList_modify,BN es.toList i (λe=> { e with key:=ek k,val:=ev v }) (λe=>rfl)];exact hn
   · rw[Array.toList_modify];exact Ph hc (BN es.toList i (λe=> { e with key:=ek k,val:=ev v }) (λe=>rfl))
def mD (ek:α->Value)(ev:β->Value)(w:World)(r m:Nat)(kvs left:List (α×β)):Prop:=
 ∃since seen c0 es clock,w.heap[r]? =some (.mapIter (some m) since seen c0)/\w.heap[m]? =some (.map es clock)/\KVg ek ev es.toList kvs/\(es.toList.map (·.born)).Nodup/\(∀e∈es.toList,e.born<clock)/\(∀e∈es.toList,e.born<since)/\since <=c0/\since <=clock/\KVg ek ev (leftOf es seen).toList left
theorem mD.map {w:World}{r m:Nat}{kvs left:List (α×β)}(h:mD ek ev w r m kvs left):wO ek ev w m kvs:=by
 obtain⟨_,_,_,es,c,_,h2,h3,h4,h5,_⟩:=h
 exact⟨es,c,h2,h3,h4,h5⟩
theorem mD.keep {w w':World}{r m:Nat}{kvs left:List (α×β)}(h:mD ek ev w r m kvs left)(hr:w'.heap[r]? =w.heap[r]?)(hm:w'.heap[m]? =w.heap[m]?):mD ek ev w' r m kvs left:=by
 obtain⟨a,b,c,d,e,h1,h2,h3⟩:=h
 exact⟨a,b,c,d,e,hr.trans h1,hm.trans h2,h3⟩
theorem mD.lt {w:World}{r m:Nat}{kvs left:List (α×β)}(h:mD ek ev w r m kvs left):r<w.heap.size:=by
 obtain⟨_,_,_,_,_,h1,_⟩:=h
 exact(Array.getElem?_eq_some_iff.1 h1).1
theorem mD.below {w w':World}{r m:Nat}{kvs left:List (α×β)}(h:mD ek ev w r m kvs left)(hb:bW w w'):mD ek ev w' r m kvs left:=h.keep (hb.block r h.lt) (hb.block m h.map.lt)
theorem Ms {P:Program}{mt kt et:TypeId}(hm:P.underlying mt=some (.map kt et)){w:World}{m:Nat}{kvs:List (α×β)}(h:wO ek ev w m kvs):
   ∃w',(Instr.range mt (.map (some m))).run P w=.ok (.pointer (some ⟨w.heap.size,0,none⟩)) w'/\mD ek ev w' w.heap.size m kvs kvs/\bW w w':=by
 obtain⟨es,c,hh,hkv,hn,hc⟩:=h
 refine⟨w.alloc (.mapIter (some m) c #[] c),?_,⟨c,#[],c,es,c,heap_alloc_new w _,?_,hkv,hn,hc,hc,Nat.le_refl _,Nat.le_refl _,?_⟩,ah w _⟩
 · unfold Instr.range
   simp only[Sem.run_bind,bD hm,Result.andThen_ok,zo hh,Sem.run_pure]
   rfl
 · exact((ah w _).block m (Array.getElem?_eq_some_iff.1 hh).1).trans hh
 · have:leftOf es #[]=es:=by
     unfold leftOf
     rw[Array.filter_eq_self]
     intro e he
     simp
   rw[this];exact hkv
theorem filter_one {γ:Type}(f:γ->Nat):∀(l:List γ) (e:γ),(l.map f).Nodup->e∈l->∃l1 l2,l=l1++e::l2/\l.filter (λx=> !decide (f x=f e))=l1++l2
 | [],e,_,h=>by cases h
 | x::l,e,hn,h=>by
   rw[List.map_cons,List.nodup_cons]at hn
   rcases List.mem_cons.1 h with rfl|h
   · refine⟨[],l,rfl,?_⟩
     rw[List.filter_cons,if_neg (by simp),List.nil_append,List.filter_eq_self]
     intro y hy
     have:f y≠f e:=λc=>hn.1 (List.mem_map.2 ⟨y,hy,c⟩)
     simp[this]
   · obtain⟨l1,l2,h1,h2⟩:=filter_one f l e hn.2 h
     refine⟨x::l1,l2,by rw[h1];rfl,?_⟩
     have:f x≠f e:=λc=>hn.1 (List.mem_map.2 ⟨e,h,c.symm⟩)
     rw[List.filter_cons,if_pos (by simp[this]),h2];rfl
theorem mD.step {P:Program}{w:World}{r m:Nat}{kvs left:List (α×β)}(h:mD ek ev w r m kvs left)(hne:r≠m)(ty:TypeId):
   (left=[]/\(Instr.next (.pointer (some ⟨r,0,none⟩)) false ty).run P w=.ok (.tuple #[.bool false]) w)\/
   ∃l1 k v l2 w',left=l1++(k,v)::l2/\(Instr.next (.pointer (some ⟨r,0,none⟩)) false ty).run P w=.ok (.tuple #[.bool true,ek k,ev v]) w'/\mD ek ev w' r m kvs (l1++l2)/\(Instr.entry (.pointer (some ⟨r,0,none⟩))).run P w'=.ok (.tuple #[ek k,ev v]) w'/\w.grownBy w' (some r):=by
 obtain⟨since,seen,c0,es,clock,hr,hm,hkv,hn,hc,hs,hsc,hsk,hl⟩:=h
 rcases run_next_at (P:=P) w ty r m since c0 seen es clock hr hm hs hsc with⟨h0,hrun⟩|⟨e,he,w1,hw1,hrun⟩
 · refine .inl ⟨?_,hrun⟩
   have:=PO hl
   rw[Array.length_toList,h0]at this
   exact List.eq_nil_of_length_eq_zero this.symm
 · refine .inr ?_
   have hrl:r<w.heap.size:=(Array.getElem?_eq_some_iff.1 hr).1
   have hhp:w1.heap=w.heap:=by rcases hw1 with rfl|rfl <;> rfl
   have hel:=mem_left he
   have hleft:(leftOf es (seen.push e.born)).toList=(leftOf es seen).toList.filter λx=> !decide (x.born=e.born):=by
     unfold leftOf
     rw[Array.toList_filter,Array.toList_filter,List.filter_filter]
     exact List.filter_congr λx hx=>by
       rw[Bool.eq_iff_iff]
       simp[Array.mem_push,and_comm]
   have hnl:((leftOf es seen).toList.map (·.born)).Nodup:=by
     unfold leftOf
     rw[Array.toList_filter]
     exact hn.sublist ((List.filter_sublist).map _)
   obtain⟨l1,l2,e1,e2⟩:=filter_one (·.born) _ e hnl he
   have hkl:=hl
   unfold KVg at hkl
   rw[e1,List.map_append,List.map_cons]at hkl
   obtain⟨q1,q2,hq,hq1,hq2⟩:=List.map_eq_append_iff.1 hkl.symm
   cases q2 with
   | nil=>cases hq2
   | cons p q2=>
     obtain⟨k,v⟩:=p
     rw[List.map_cons,List.cons.injEq]at hq2
     have hkey:e.key=ek k:=(congrArg Prod.fst hq2.1).symm
     have hval:e.val=ev v:=(congrArg Prod.snd hq2.1).symm
     have hset:(setBlock w1 r (.mapIter (some m) since (seen.push e.born) clock)).heap[r]? =some (.mapIter (some m) since (seen.push e.born) clock):=by
       unfold setBlock
       simp[hhp,hrl]
     have hset2:(setBlock w1 r (.mapIter (some m) since (seen.push e.born) clock)).heap[m]? =some (.map es clock):=by
       unfold setBlock
       simp only[hhp]
       rw[Array.getElem?_setIfInBounds_ne hne];exact hm
     refine⟨q1,k,v,q2,setBlock w1 r (.mapIter (some m) since (seen.push e.born) clock),hq,?_,⟨since,seen.push e.born,clock,es,clock,hset,hset2,hkv,hn,hc,hs,hsk,hsk,?_⟩,?_,?_⟩
     · rw[<- hkey,<- hval];exact hrun
     · unfold KVg
       rw[hleft,e2,List.map_append,List.map_append,hq1,hq2.2]
     · rw[<- hkey,<- hval]
       exact run_entry_at _ r m since seen es clock e hset hset2 hel.1 hn
     · rcases hw1 with rfl|rfl
       · exact Cu _
       · have hd:=bg w
         refine⟨hd.os,hd.tape,hd.output,?_,λj hj hnj=>?_⟩
         · have:=hd.size
           show _ <=(Array.setIfInBounds _ _ _).size
           rw[Array.size_setIfInBounds];exact this
         · have:r≠j:=λc=>hnj (by rw[c])
           show(Array.setIfInBounds _ _ _)[j]? =_
           rw[Array.getElem?_setIfInBounds_ne this]
           exact hd.block j hj
end
def ekN (k:IntKind)(n:Nat):Value:=.int k ((n:Nat):Int)
theorem Cp {β:Type}(ik:IntKind)(ev:β->Value)(k:Nat):∀(es:List MapEntry) (kvs:List (Nat×β)) (i:Nat),KVg (ekN ik) ev es kvs->
   Instr.findNow (.int ik) (ekN ik k) es i=some ((mL k kvs i).map λp=>(p.1,ev p.2))
 | [],kvs,i,h=>by
   have:kvs=[]:=by
     unfold KVg at h;simp at h;exact h
   subst this;rfl
 | e::es,[],i,h=>by unfold KVg at h;simp at h
 | e::es,(k',v)::kvs,i,h=>by
   unfold KVg at h
   simp only[List.map_cons,List.cons.injEq,Prod.mk.injEq]at h
   obtain⟨⟨hk,hv⟩,ht⟩:=h
   unfold Instr.findNow mL
   rw[hk]
   unfold ekN
   simp only[Instr.sameNow]
   by_cases e1:k=k'
   · simp[e1,hv]
   · have e2:((((k:Nat):Int))==(((k':Nat):Int)))=false:=by
       rw[beq_eq_false_iff_ne];omega
     simp only[e1,e2,decide_false,if_false,if_true]
     exact Cp ik ev k es kvs (i+1) ht
theorem wN.int {P:Program}{kt:TypeId}{ik:IntKind}(hu:P.underlying kt=some (.int ik)):wN P kt (ekN ik) where
 check:=λb k w=>by
   show(Instr.checkKey b (9999+1) kt _).run P w=_
   unfold Instr.checkKey
   rw[Sem.run_bind,bD hu,Result.andThen_ok]
   rfl
 find:=λev k es kvs w h=>by
   unfold Instr.findKey
   rw[Sem.run_bind,bD hu,Result.andThen_ok,Cp ik ev k es kvs 0 h]
   rfl
theorem Ga (ik:IntKind)(k:Nat):Instr.sameBits 10000 (ekN ik k) (ekN ik k)=true:=by
 show Instr.sameBits (9999+1) _ _=true
 simp[Instr.sameBits,ekN]
theorem dQ {a:Option Addr}{b:Nat} :b∈(bK a).toList ↔ bK a=some b:=by simp
structure Pt where
 fp:List Nat
 P:World->Prop
 st:∀{w w':World},P w->vJ (λb=>b∈fp) w w'->P w'
 lt:∀{w:World},P w->∀b∈fp,b<w.heap.size
def ptA (k:Nat)(t:TypeId)(vs:List Value):Pt where
 fp:=[k]
 P:=λw=>am w k t vs
 st:=λh hk=>h.block (hk.block k h.lt List.mem_cons_self)
 lt:=λh b hb=>by rw[List.mem_singleton]at hb;subst hb;exact h.lt
def ptO {α:Type}(T:Ty α)(t:TypeId)(a:Option Addr)(n c:Nat)(xs:List α):Pt where
 fp:=(bK a).toList
 P:=λw=>Ow T t w NoB a n c xs
 st:=λh hk=>h.keep (hk.mono λb hb=>by
   rcases hb with hb|hb
   · exact hb.elim
   · exact dQ.2 hb.symm)
 lt:=λh b hb=>h.lt b (dQ.1 hb)
structure St (ps:List Pt)(w:World):Prop where
 hold:∀p∈ps,p.P w
 ap:∀(i j:Nat) (p q:Pt),ps[i]? =some p->ps[j]? =some q->i≠j->∀b∈p.fp,b ∉ q.fp
theorem St.at {ps:List Pt}{w:World}(h:St ps w)(i:Nat){p:Pt}(hi:ps[i]? =some p):p.P w:=h.hold p (List.mem_of_getElem? hi)
theorem St.nil (w:World):St [] w:=⟨λp hp=>(by cases hp),λi j p q hp=>by simp at hp⟩
theorem St.upd {ps:List Pt}{w w':World}(h:St ps w)(i:Nat){p p':Pt}(hi:ps[i]? =some p)(hc:Chg p.fp w w')(hp:p'.P w')(hf:∀b∈p'.fp,b∈p.fp\/w.heap.size <=b):St (ps.set i p') w':=by
 have old:∀(j:Nat) (q:Pt),ps[j]? =some q->j≠i->q.P w'/\∀b∈p'.fp,b ∉ q.fp:=λj q hq hne=>by
   have hq0:=h.at j hq
   refine⟨q.st hq0 (hc.keep.mono λb hb hb2=>h.ap j i q p hq hi hne b hb hb2),λb hb hb2=>?_⟩
   rcases hf b hb with h1|h1
   · exact h.ap j i q p hq hi hne b hb2 h1
   · have:=q.lt hq0 b hb2;omega
 refine⟨λq hq=>?_,λj k q r hq hr hne b hb hb2=>?_⟩
 · obtain⟨j,hj⟩:=List.mem_iff_getElem?.1 hq
   rcases nv hj with⟨_,rfl⟩|⟨hne,hj⟩
   · exact hp
   · exact(old j q hj hne).1
 · rcases nv hq with⟨e1,rfl⟩|⟨hn1,hq1⟩ <;> rcases nv hr with⟨e2,rfl⟩|⟨hn2,hr1⟩
   · omega
   · exact(old k r hr1 hn2).2 b hb hb2
   · exact(old j q hq1 hn1).2 b hb2 hb
   · exact h.ap j k q r hq1 hr1 hne b hb hb2
theorem St.keep {ps:List Pt}{w w':World}(h:St ps w)(hk:vJ (λb=>∃p∈ps,b∈p.fp) w w'):St ps w':=
 ⟨λp hp=>p.st (h.hold p hp) (hk.mono λb hb=>⟨p,hp,hb⟩),h.ap⟩
theorem St.below {ps:List Pt}{w w':World}(h:St ps w)(hb:bW w w'):St ps w':=h.keep (zj hb _)
theorem St.add {ps:List Pt}{w w':World}(h:St ps w)(hb:bW w w'){p:Pt}(hp:p.P w')(hf:∀b∈p.fp,w.heap.size <=b):St (p::ps) w':=by
 refine⟨λq hq=>?_,λi j q r hq hr hne b hb1 hb2=>?_⟩
 · rcases List.mem_cons.1 hq with rfl|hq
   · exact hp
   · exact(h.below hb).hold q hq
 · cases i with
   | zero=>
     cases j with
     | zero=>exact hne rfl
     | succ j=>
       simp only[List.getElem?_cons_zero,List.getElem?_cons_succ,Option.some.injEq]at hq hr
       subst hq
       have:=r.lt (h.at j hr) b hb2
       have:=hf b hb1
       omega
   | succ i=>
     cases j with
     | zero=>
       simp only[List.getElem?_cons_zero,List.getElem?_cons_succ,Option.some.injEq]at hq hr
       subst hr
       have:=q.lt (h.at i hq) b hb1
       have:=hf b hb2
       omega
     | succ j=>
       simp only[List.getElem?_cons_succ]at hq hr
       exact h.ap i j q r hq hr (by omega) b hb1 hb2
theorem St.sub {ps qs:List Pt}{w:World}(h:St ps w)(f:Nat->Nat)(hf:∀i q,qs[i]? =some q->ps[f i]? =some q)(hi:∀i j,i<qs.length->j<qs.length->f i=f j->i=j):St qs w:=by
 refine⟨λq hq=>?_,λi j p q hp hq hne=>?_⟩
 · obtain⟨i,hi⟩:=List.mem_iff_getElem?.1 hq
   exact h.at (f i) (hf i q hi)
 · have l1:=(List.getElem?_eq_some_iff.1 hp).1
   have l2:=(List.getElem?_eq_some_iff.1 hq).1
   exact h.ap (f i) (f j) p q (hf i p hp) (hf j q hq) λe=>hne (hi i j l1 l2 e)
theorem St.tail {p:Pt}{ps:List Pt}{w:World}(h:St (p::ps) w):St ps w:=h.sub (· +1) (λi q hq=>by rw[List.getElem?_cons_succ];exact hq) λi j _ _ e=>by omega
theorem St.low {ps:List Pt}{B:Nat}(hB:∀p∈ps,∀b∈p.fp,B <=b){i:Nat}{p:Pt}(hi:ps[i]? =some p):∀b∈p.fp,B <=b:=hB p (List.mem_of_getElem? hi)
structure Sp (w0:World)(ps:List Pt)(w:World):Prop where
 st:St ps w
 low:∀p∈ps,∀b∈p.fp,w0.heap.size <=b
 bw:bW w0 w
theorem Sp.at {w0 w:World}{ps:List Pt}(h:Sp w0 ps w)(i:Nat){p:Pt}(hi:ps[i]? =some p):p.P w:=h.st.at i hi
theorem Sp.below {w0 w w':World}{ps:List Pt}(h:Sp w0 ps w)(hb:bW w w'):Sp w0 ps w':=⟨h.st.below hb,h.low,ab h.bw hb h.bw.size⟩
theorem Sp.upd {w0 w w':World}{ps:List Pt}(h:Sp w0 ps w)(i:Nat){p p':Pt}(hi:ps[i]? =some p)(hc:Chg p.fp w w')(hp:p'.P w')(hf:∀b∈p'.fp,b∈p.fp\/w.heap.size <=b):Sp w0 (ps.set i p') w':=by
 have hl:=h.low p (List.mem_of_getElem? hi)
 refine⟨h.st.upd i hi hc hp hf,λq hq b hb=>?_,h.bw.trans (hc.below h.bw.size hl)⟩
 obtain⟨j,hj⟩:=List.mem_iff_getElem?.1 hq
 rcases nv hj with⟨_,rfl⟩|⟨_,hj⟩
 · rcases hf b hb with e|e
   · exact hl b e
   · have:=h.bw.size;omega
 · exact h.low q (List.mem_of_getElem? hj) b hb
theorem Sp.add {w0 w w':World}{ps:List Pt}(h:Sp w0 ps w)(hb:bW w w'){p:Pt}(hp:p.P w')(hf:∀b∈p.fp,w.heap.size <=b):Sp w0 (p::ps) w':=
 ⟨h.st.add hb hp hf,λq hq b hb2=>by
   have:=h.bw.size
   rcases List.mem_cons.1 hq with rfl|hq
   · have:=hf b hb2;omega
   · exact h.low q hq b hb2,ab h.bw hb h.bw.size⟩
theorem Sp.nil (w:World):Sp w [] w:=⟨St.nil w,λp hp=>(by cases hp),Below.refl _ _⟩
theorem Sp.sub {w0 w:World}{ps qs:List Pt}(h:Sp w0 ps w)(f:Nat->Nat)(hf:∀i q,qs[i]? =some q->ps[f i]? =some q)(hi:∀i j,i<qs.length->j<qs.length->f i=f j->i=j):Sp w0 qs w:=
 ⟨h.st.sub f hf hi,λq hq b hb=>by
   obtain⟨i,hi⟩:=List.mem_iff_getElem?.1 hq
   exact h.low q (List.mem_of_getElem? (hf i q hi)) b hb,h.bw⟩
theorem Sp.tail {w0 w:World}{p:Pt}{ps:List Pt}(h:Sp w0 (p::ps) w):Sp w0 ps w:=h.sub (· +1) (λi q hq=>by rw[List.getElem?_cons_succ];exact hq) λi j _ _ e=>by omega
theorem Sp.oth {w0 w u:World}{ps:List Pt}(h:Sp w0 ps w)(i:Nat){p:Pt}(hi:ps[i]? =some p)(hu:Chg p.fp w u)(j:Nat){q:Pt}(hj:ps[j]? =some q)(hne:j≠i):q.P u:=
 q.st (h.at j hj) (hu.keep.mono λb hb hb2=>h.st.ap j i q p hj hi hne b hb hb2)
theorem Sp.obw {w0 w u:World}{ps:List Pt}(h:Sp w0 ps w)(i:Nat){p:Pt}(hi:ps[i]? =some p)(hu:Chg p.fp w u):bW w0 u:=h.bw.trans (hu.below h.bw.size (h.low p (List.mem_of_getElem? hi)))
theorem Sp.put {P:Program}{u:TypeId}{bytes:Nat}{z:Value}(tf:TF P u 1 bytes z){w0 w:World}{ps:List Pt}(h:Sp w0 ps w)(j:Nat){k:Nat}{t:TypeId}{vs:List Value}(hj:ps[j]? =some (ptA k t vs)){i:Nat}{v:Value}(hv:v.cells= #[v])(h1:v.oneCell'=true)(hi:i<vs.length):
   ∃wx,(Instr.storeAt u (.pointer (some ⟨k,i,none⟩)) v).run P w=.ok () wx/\Sp w0 (ps.set j (ptA k t (vs.set i v))) wx/\w.grownBy wx (some k):=by
 have hA:am w k t vs:=h.at j hj
 obtain⟨wx,q,A,g⟩:=hA.store tf (i:=i) (v:=v) (by rw[hv];rfl) (by omega) (by intro c hc;rw[hv]at hc;simp at hc;subst hc;exact h1)
 refine⟨wx,q,h.upd j hj (Chg.grown g List.mem_cons_self) ?_ λb hb=>.inl hb,g⟩
 show am wx k t (vs.set i v)
 rw[List.set_eq_take_append_cons_drop,if_pos hi]
 rw[hv]at A
 simpa using A
def ptM {α β:Type}[DecidableEq α](ek:α->Value)(ev:β->Value)(k:Nat)(kvs:List (α×β)):Pt where
 fp:=[k]
 P:=λw=>wO ek ev w k kvs
 st:=λh hk=>h.keep (hk.block k h.lt List.mem_cons_self)
 lt:=λh b hb=>by rw[List.mem_singleton]at hb;subst hb;exact h.lt
theorem Kx {α:Type}{T:Ty α}(hfl:Flat T){P:Program}{st t ty:TypeId}{bytes:Nat}{z:Value}(hu:P.underlying st=some (.slice t))(tf:TF P t T.k bytes z)(hb0:0<bytes)
   {w w1:World} {a:Option Addr} {n c:Nat} {xs:List α} (ho:Ow T t w NoB a n c xs) {k1:Nat} {vs:List Value} {x:α} (hk:k1=w.heap.size)
   (hw:w1=w.alloc (.cells vs.toArray t)) (hx:T.rep w NoB vs x) {cm:Nat} (hbound:(xs.length+1)*bytes <=140737488355328):
   Chg (bK a).toList w w1/\∃(w2:World) (a':Option Addr) (n' c':Nat),(Builtin.append_ #[st,st] ty #[.slice a n c,.slice (some ⟨k1,0,none⟩) 1 cm]).run P w1=.ok (.slice a' n' c') w2/\Ow T t w2 NoB a' n' c' (xs++[x])/\Chg (bK a).toList w w2/\oD w a a':=by
 have hB1:bW w w1:=hw▸ah w _
 have hsrc:Src T w1 NoB (some ⟨k1,0,none⟩) 1 [x]:=Src.new1F hfl hk hw hx
 obtain⟨w4,a4,n4,c4,hr,ho4,hgr,hfr⟩:=dh (ty:=ty) hu tf hb0 (ho.below hB1) (λ_ _ h=>h) (cm:=cm) hsrc (by simpa using hbound)
 have c1:Chg (bK a).toList w w1:=Chg.of hB1
 exact⟨c1,w4,a4,n4,c4,hr,ho4,c1.trans (Chg.row hgr),λg hg=>(hfr g hg).imp id λh=>Nat.le_trans hB1.size h⟩
theorem oD.fp {w:World}{a a':Option Addr}(h:oD w a a'):∀b∈(bK a').toList,b∈(bK a).toList\/w.heap.size <=b:=λb hb=>(h b (dQ.1 hb)).imp dQ.2 id
structure Hi where
 a:Option Addr
 n:Nat
 c:Nat
 xs:List Int
 deriving DecidableEq
def Hi.v (h:Hi):Value:=.slice h.a h.n h.c
def tHi:Ty Hi:=Ty.enc Hi.v (λ_=>rfl) λ_=>True
theorem Bq:Flat tHi:=λ_ _ _ _ _ _ h=>h
def hi0:Hi:=⟨none,0,0,[]⟩
structure Rws (ti:TypeId)(w:World)(hs:List Hi):Prop where
 own:∀h∈hs,Ow cI ti w NoB h.a h.n h.c h.xs
 ap:hs.Pairwise λx y=>∀b,bK x.a=some b->bK y.a≠some b
theorem Rws.perm {ti:TypeId}{w:World}{hs gs:List Hi}(h:Rws ti w hs)(hp:hs.Perm gs):Rws ti w gs:=
 ⟨λx hx=>h.own x (hp.symm.subset hx),(hp.pairwise_iff fun{x y} hxy b hb hb2=>hxy b hb2 hb).1 h.ap⟩
def BA (hs:List Hi):List Nat:=hs.flatMap λh=>(bK h.a).toList
theorem pX {hs:List Hi}{b:Nat} :b∈BA hs ↔ ∃h∈hs,bK h.a=some b:=by
 unfold BA
 rw[List.mem_flatMap]
 exact⟨λ⟨h,h1,h2⟩=>⟨h,h1,dQ.1 h2⟩,λ⟨h,h1,h2⟩=>⟨h,h1,dQ.2 h2⟩⟩
theorem Rws.keep {ti:TypeId}{w w':World}{hs:List Hi}(h:Rws ti w hs)(hk:vJ (λb=>b∈BA hs) w w'):Rws ti w' hs:=
 ⟨λx hx=>(ptO cI ti x.a x.n x.c x.xs).st (h.own x hx) (hk.mono λb hb=>pX.2 ⟨x,hx,dQ.1 hb⟩),h.ap⟩
def ptR (ti:TypeId)(hs:List Hi):Pt where
 fp:=BA hs
 P:=λw=>Rws ti w hs
 st:=λh hk=>h.keep hk
 lt:=λh b hb=>by
   obtain⟨x,hx,e⟩:=pX.1 hb
   exact(h.own x hx).lt b e
theorem Rws.nil (ti:TypeId)(w:World):Rws ti w []:=⟨λx hx=>(by cases hx),List.Pairwise.nil⟩
theorem Rws.tail {ti:TypeId}{w:World}{h:Hi}{hs:List Hi}(k:Rws ti w (h::hs)):Rws ti w hs:=⟨λx hx=>k.own x (List.mem_cons_of_mem _ hx),(List.pairwise_cons.1 k.ap).2⟩
theorem Rws.upd {ti:TypeId}{w w':World}{h h':Hi}{hs:List Hi}(k:Rws ti w (h::hs))(hc:Chg (bK h.a).toList w w')(ho:Ow cI ti w' NoB h'.a h'.n h'.c h'.xs)(hn:oD w h.a h'.a):Rws ti w' (h'::hs):=by
 obtain⟨k1,k2⟩:=List.pairwise_cons.1 k.ap
 refine⟨λx hx=>?_,List.pairwise_cons.2 ⟨λy hy b hb hb2=>?_,k2⟩⟩
 · rcases List.mem_cons.1 hx with rfl|hx
   · exact ho
   · exact(ptO cI ti x.a x.n x.c x.xs).st (k.own x (List.mem_cons_of_mem _ hx)) (hc.keep.mono λb hb hb2=>k1 x hx b (dQ.1 hb2) (dQ.1 hb))
 · rcases hn b hb with e|e
   · exact k1 y hy b e hb2
   · have:=(k.own y (List.mem_cons_of_mem _ hy)).lt b hb2;omega
theorem Rws.add {ti:TypeId}{w w':World}{h':Hi}{hs:List Hi}(k:Rws ti w hs)(hb:bW w w')(ho:Ow cI ti w' NoB h'.a h'.n h'.c h'.xs)(hn:bI w.heap.size h'.a):Rws ti w' (h'::hs):=by
 refine⟨λx hx=>?_,List.pairwise_cons.2 ⟨λy hy b hb1 hb2=>?_,k.ap⟩⟩
 · rcases List.mem_cons.1 hx with rfl|hx
   · exact ho
   · exact(k.own x hx).below hb
 · have:=(k.own y hy).lt b hb2
   have:=hn b hb1
   omega
theorem gA {h:Hi}{hs:List Hi}{b:Nat} :b∈BA (h::hs) ↔ bK h.a=some b\/b∈BA hs:=by
 rw[pX,pX]
 constructor
 · rintro⟨x,hx,e⟩
   rcases List.mem_cons.1 hx with rfl|hx
   · exact .inl e
   · exact .inr ⟨x,hx,e⟩
 · rintro(e|⟨x,hx,e⟩)
   · exact⟨h,List.mem_cons_self,e⟩
   · exact⟨x,List.mem_cons_of_mem _ hx,e⟩
theorem rz {hs gs:List Hi}(hp:hs.Perm gs){b:Nat} :b∈BA hs ↔ b∈BA gs:=by
 rw[pX,pX]
 exact⟨λ⟨x,hx,e⟩=>⟨x,hp.subset hx,e⟩,λ⟨x,hx,e⟩=>⟨x,hp.symm.subset hx,e⟩⟩
theorem FV {α:Type}{l:List α}{t:Nat}{x:α}(h:l[t]? =some x):∃rest:List α,l.Perm (x::rest)/\∀y,(l.set t y).Perm (y::rest):=by
 obtain⟨hl,e⟩:=List.getElem?_eq_some_iff.1 h
 refine⟨l.take t++l.drop (t+1),?_,λy=>?_⟩
 · have e1:l=l.take t++x::l.drop (t+1):=by
     conv=>lhs;rw[<- List.take_append_drop t l,List.drop_eq_getElem_cons hl,e]
   conv=>lhs;rw[e1]
   exact List.perm_middle
 · rw[List.set_eq_take_append_cons_drop,if_pos hl]
   exact List.perm_middle
theorem lQ {l m:List Hi}(h:∀x,l.count x=m.count x):l.Perm m:=List.perm_iff_count.2 h
theorem Ob {zs:List Value}(h:DE zs)(n:Nat)(hz:zs≠[]):∀v∈(Builtin.zeroCells zs.toArray n).toList,v.oneCell'=true:=by
 intro v hv
 unfold Builtin.zeroCells at hv
 rw[Array.toList_map]at hv
 obtain⟨i,_,rfl⟩:=List.mem_map.1 hv
 have hp:0<zs.toArray.size:=by simpa[List.length_pos_iff]using hz
 have hm:=Nat.mod_lt i hp
 rw[getElem!_pos zs.toArray _ hm]
 exact h _ (by simp)
theorem Cn {α:Type}(p:α->Bool)(l:List α)(x:α):(l++[x]).filter p=if p x=true then l.filter p++[x]else l.filter p:=by
 rw[List.filter_append,List.filter_cons,List.filter_nil]
 split <;> simp
end Go.Pk
