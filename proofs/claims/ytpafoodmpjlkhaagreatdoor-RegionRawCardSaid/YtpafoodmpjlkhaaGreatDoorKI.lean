/- What the laws lean on: PthC, RegD, HosH, HosK, V42, RegE, RegG, RegI, RegJ, RegK, EqR, RegL, MapH, KeyI, Sep, Del, V45, V46; what is used. Its conditions: none. -/
import Derived.Test.YtpafoodmpjlkhaaGreatDoorKH
import Derived.Maps.RangeRun
set_option linter.unusedVariables false
set_option linter.unusedSimpArgs false
set_option linter.unusedSectionVars false
set_option maxRecDepth 100000
open Go.IntKind (i64)
open Go.Proofs.Tryz
open List (length)
open Option (isSome)
namespace Go.Pk
open Go.RowKit (Below)
open Go.Proofs
def pB (d:DA):Bool:=okD d&&decide (d.k=92)
theorem Lb:tF (dK [47]) (pw [47]) 1:=mS ot (by decide)
theorem EB:(dK [47]).k=92:=by unfold dK;rw[if_pos ot];rfl
theorem JN:(dK [47]).K=92:=by unfold DA.K;rw[EB];rfl
theorem FM {d e:DA}{ps:List Pr}(hk:d.k=92)(hI:fN d (dK [47]) (λx y=>x&&y) e ps)(v:List Nat):
   e.Lang e.s v ↔ d.Lang d.s v/\pw [47] <+:v:=by
 have hK:d.K=92:=by unfold DA.K;rw[hk];rfl
 rw[hI.lang v]
 have h2:=Lb.lang v
 unfold DA.Lang at h2 ⊢
 rw[JN]at h2
 rw[hK,Bool.and_eq_true]
 constructor
 · rintro⟨h3,h4,h5⟩
   exact⟨⟨h3,h4⟩,(h2.1 ⟨h3,h5⟩).2⟩
 · rintro⟨⟨h3,h4⟩,h5⟩
   exact⟨h3,h4,(h2.2 ⟨h3,h5⟩).2⟩
structure Ie (d:DA)(nn:Int)(dd:DA)(B:Nat)(W:World)(a:Option Addr)(n c:Nat)(b:Option Addr)(m e:Nat):Prop where
 da:ri B W a n c b m e dd
 how:nn=151/\pB d=false\/nn=0/\pB d=true/\∃ps,fN d (dK [47]) (λx y=>x&&y) dd ps
theorem JR {W:World}{a b a1 b1:Option Addr}{n c m e n1 c1 m1 e1:Nat}{d:DA}(h:DaS W a n c b m e d)(h1:DaS W a1 n1 c1 b1 m1 e1 (dK [47]))(hf:d.Ok->d.k=92->Few d (dK [47])):
   Cf cv #[daV a n c b m e d,daV a1 n1 c1 b1 m1 e1 (dK [47])] W (Ret λv W'=>∃(nn:Int) (dd:DA) (a2:Option Addr) (n2 c2:Nat) (b2:Option Addr) (m2 e2:Nat),v=.tuple #[daV a2 n2 c2 b2 m2 e2 dd,vI nn]/\Ie d nn dd W.heap.size W' a2 n2 c2 b2 m2 e2/\bW W W'):=by
 refine aw (py h h1 (λq1 _ hk=>hf q1 (by rw[hk,EB]))) ?_
 intro v w27 hP
 have eb:dz d (dK [47])=pB d:=by
   have e1:(d.k==(dK [47]).k)=decide (d.k=92):=by rw[EB,Bool.eq_iff_iff,beq_iff_eq,dTx]
   unfold dz pB
   rw[eY.2 Lb.ok,Bool.true_and,e1]
 unfold lO at hP
 rw[eb]at hP
 cases hp:pB d with
 | false=>
   rw[if_neg (by rw[hp];decide)]at hP
   obtain⟨rfl,b27⟩:=hP
   exact⟨_,rfl,151,d0,none,0,0,none,0,0,rfl,⟨⟨Ow.nil _ _ _ _,Ow.nil _ _ _ _,(λg hg=>by cases hg),br.none _,br.none _⟩,.inl ⟨rfl,hp⟩⟩,b27⟩
 | true=>
   rw[if_pos hp]at hP
   obtain⟨dd,ps,hI,a2,n2,c2,b2,m2,e2,rfl,OB,b27⟩:=hP
   exact⟨_,rfl,0,dd,a2,n2,c2,b2,m2,e2,rfl,⟨OB,.inr ⟨rfl,hp,ps,hI⟩⟩,b27⟩
def JE (d:DA)(w:World)(v:Value)(w':World):Prop:=bW w w'/\
 if pB d=true then ∃r:Option (List UInt8),jH (d.Lang d.s) r/\v=.tuple #[vS (r.getD []),.bool r.isSome,vI 0]else v=.tuple #[vS [],.bool false,vI 151]
theorem DM:GF jl 1:=by
 refine⟨by omega,by omega,λx hx=>?_⟩
 rw[xl]at hx
 unfold cAt jl
 rw[List.getD_eq_getElem?_getD,List.getElem?_replicate,if_pos hx]
 exact Int.le_refl _
set_option maxHeartbeats 1000000 in
theorem sP {w:World}{a b:Option Addr}{n c m e:Nat}{d:DA}(h:DaS w a n c b m e d)(hf:d.Ok->d.k=92->Few d (dK [47])):
   Cf jR #[daV a n c b m e d] w (Ret (JE d w)):=by
 apply rQ
 intro k1 w1 hk1 hw1
 have b1:=(hw1▸af w _:bW w w1)
 have A1:ai w1 k1 ae (daL a n c b m e d):=ai.new hk1 hw1
 have D1:=h.below b1
 have ld:∀{W:World},bW w1 W->(Instr.loadAt ae (.pointer (some ⟨k1,0,none⟩))).run prog W=.ok (daV a n c b m e d) W:=λhb=>bh.load0 (cs:=daL a n c b m e d) (A1.below hb) rfl
 let J:Option Addr->Int->World->Prop:=λp n6 W=>bW w1 W/\∃(k:Nat) (dd:DA) (a2:Option Addr) (n2 c2:Nat) (b2:Option Addr) (m2 e2:Nat),p=some ⟨k,0,none⟩/\ai W k ae (daL a2 n2 c2 b2 m2 e2 dd)/\∃B,Ie d n6 dd B W a2 n2 c2 b2 m2 e2
 have fin:∀{W:World} {k:Nat} {nn:Int} {dd:DA} {a2 b2:Option Addr} {n2 c2 m2 e2:Nat},bW w1 W->w1.heap.size <=k->ai W k ae [vI 0,vI 0,.slice none 0 0,.slice none 0 0]->(∀W',W.grownBy W' (some k)->∃B,Ie d nn dd B W' a2 n2 c2 b2 m2 e2)->
     ∃wx,(Instr.storeAt ae (.pointer (some ⟨k,0,none⟩)) (daV a2 n2 c2 b2 m2 e2 dd)).run prog W=.ok () wx/\J (some ⟨k,0,none⟩) nn wx:=by
   intro W k nn dd a2 b2 n2 c2 m2 e2 hb hk hA hR
   obtain⟨wx,q1,v1,g1⟩:=bh.store0 (P:=prog) (cs:=daL a2 n2 c2 b2 m2 e2 dd) rfl (dt _ _ _ _ _ _ _) hA rfl
   exact⟨wx,q1,Below.put hb g1 hk,k,dd,a2,n2,c2,b2,m2,e2,rfl,v1,hR wx g1⟩
 have c2:∀{W:World} {k:Nat} {a1 b1:Option Addr} {n1 c1 m1 e1:Nat},bW w1 W->w1.heap.size <=k->ai W k ae [vI 0,vI 0,.slice none 0 0,.slice none 0 0]->DaS W a1 n1 c1 b1 m1 e1 (dK [47])->
     Cf cv #[daV a n c b m e d,daV a1 n1 c1 b1 m1 e1 (dK [47])] W λe13 w13=>∃(n00 n01:Int) (a2:Option Addr) (l2 q2:Nat) (a3:Option Addr) (l3 q3:Nat) (nn:Int),e13=.returned (.tuple #[.agg #[vI n00,vI n01,.slice a2 l2 q2,.slice a3 l3 q3],vI nn])/\
       ∃(wx:World),(Instr.storeAt ae (.pointer (some ⟨k,0,none⟩)) (.agg #[vI n00,vI n01,.slice a2 l2 q2,.slice a3 l3 q3])).run prog w13=.ok () wx/\J (some ⟨k,0,none⟩) nn wx:=by
   intro W k a1 b1 n1 c1 m1 e1 hb hk hA hD
   refine aw (JR (D1.below hb) hD hf) ?_
   rintro _ w13 ⟨nn,dd,a2,n2,c2,b2,m2,e2,rfl,hR,hb13⟩
   have hlt:=hA.lt
   exact⟨_,_,a2,n2,c2,b2,m2,e2,nn,rfl,fin (ab hb hb13 hb.size) hk (hA.below hb13) λW' g=>⟨_,hR.da.put g hlt,hR.how⟩⟩
 have Z:∀{W W':World} {k:Nat},k=W.heap.size->W'=W.alloc (.cells #[vI 0,vI 0,.slice none 0 0,.slice none 0 0] ae)->ai W' k ae [vI 0,vI 0,.slice none 0 0,.slice none 0 0]/\bW W W':=λhk hw=>⟨ai.new hk hw,hw▸af _ _⟩
 have c1:∀{W:World} {a1 b1:Option Addr} {n1 c1 m1 e1:Nat},bW w1 W->DaS W a1 n1 c1 b1 m1 e1 (dK [47])->
     Cf cv #[daV a n c b m e d,daV a1 n1 c1 b1 m1 e1 (dK [47])] W λe13 w13=>∃(n00 n01:Int) (a2:Option Addr) (l2 q2:Nat) (a3:Option Addr) (l3 q3:Nat) (nn:Int),e13=.returned (.tuple #[.agg #[vI n00,vI n01,.slice a2 l2 q2,.slice a3 l3 q3],vI nn])/\
       ∀(k5:Nat) (w5:World),k5=w13.heap.size->w5=w13.alloc (.cells #[vI 0,vI 0,.slice none 0 0,.slice none 0 0] ae)->
       ∃(wx:World),(Instr.storeAt ae (.pointer (some ⟨k5,0,none⟩)) (.agg #[vI n00,vI n01,.slice a2 l2 q2,.slice a3 l3 q3])).run prog w5=.ok () wx/\J (some ⟨k5,0,none⟩) nn wx:=by
   intro W a1 b1 n1 c1 m1 e1 hb hD
   refine aw (JR (D1.below hb) hD hf) ?_
   rintro _ w13 ⟨nn,dd,a2,n2,c2,b2,m2,e2,rfl,hR,hb13⟩
   refine⟨_,_,a2,n2,c2,b2,m2,e2,nn,rfl,?_⟩
   intro k5 w5 hk5 hw5
   obtain⟨A5,b5⟩:=Z hk5 hw5
   have B13:=ab hb hb13 hb.size
   have s13:=B13.size
   exact fin (ab B13 b5 B13.size) (by omega) A5 λW' g=>⟨_,hR.da.below (Below.put b5 g (by omega)),hR.how⟩
 have B0:bW w1 w1.drew:=aQ w1
 have paths:∀(W:World),Cf cg #[] W (Ret (JF W (dK [47]))):=Ch
 refine⟨J,⟨⟨_,_,a,n,c,b,m,e,ld B0,⟨?_,?_⟩⟩,⟨?_,?_⟩⟩,?_⟩
 · refine aw (paths _) ?_
   rintro _ w12 ⟨a1,n1,c1',b1',m1,e1,rfl,O,hb⟩
   have B:=ab B0 hb B0.size
   have s:=B.size
   refine⟨_,_,a1,n1,c1',b1',m1,e1,rfl,c1 B O.das,?_⟩
   intro k5 w5 hk5 hw5
   obtain⟨A5,b5⟩:=Z hk5 hw5
   exact c2 (ab B b5 B.size) (by omega) A5 (O.das.below b5)
 · intro k5 w5 hk5 hw5
   obtain⟨A5,b5⟩:=Z hk5 hw5
   have B:=ab B0 b5 B0.size
   have s:=B0.size
   refine aw (paths _) ?_
   rintro _ w12 ⟨a1,n1,c1',b1',m1,e1,rfl,O,hb⟩
   exact⟨_,_,a1,n1,c1',b1',m1,e1,rfl,c2 (ab B hb B.size) (by omega) (A5.below hb) O.das⟩
 · refine aw (paths _) ?_
   rintro _ w12 ⟨a1,n1,c1',b1',m1,e1,rfl,O,hb⟩
   have B:=ab B0 hb B0.size
   have s:=B.size
   refine⟨_,_,a1,n1,c1',b1',m1,e1,rfl,⟨_,_,a,n,c,b,m,e,ld B,c1 B O.das,?_⟩,?_⟩
   · intro k5 w5 hk5 hw5
     obtain⟨A5,b5⟩:=Z hk5 hw5
     exact c2 (ab B b5 B.size) (by omega) A5 (O.das.below b5)
   · intro k5 w5 hk5 hw5
     obtain⟨A5,b5⟩:=Z hk5 hw5
     have B5:=ab B b5 B.size
     exact⟨_,_,a,n,c,b,m,e,ld B5,c2 B5 (by omega) A5 (O.das.below b5)⟩
 · intro k5 w5 hk5 hw5
   obtain⟨A5,b5⟩:=Z hk5 hw5
   have B:=ab B0 b5 B0.size
   have s:=B0.size
   refine⟨⟨_,_,a,n,c,b,m,e,ld B,?_⟩,?_⟩
   · refine aw (paths _) ?_
     rintro _ w12 ⟨a1,n1,c1',b1',m1,e1,rfl,O,hb⟩
     exact⟨_,_,a1,n1,c1',b1',m1,e1,rfl,c2 (ab B hb B.size) (by omega) (A5.below hb) O.das⟩
   · refine aw (paths _) ?_
     rintro _ w12 ⟨a1,n1,c1',b1',m1,e1,rfl,O,hb⟩
     have B12:=ab B hb B.size
     exact⟨_,_,a1,n1,c1',b1',m1,e1,rfl,_,_,a,n,c,b,m,e,ld B12,c2 B12 (by omega) (A5.below hb) O.das⟩
 intro p5 n6
 refine aL.of ?_ _
 rintro wj ⟨Bj,k,dd,a2,n2,c2',b2,m2,e2,rfl,Aj,BB,hR⟩
 have Bw:=ab b1 Bj b1.size
 rcases hR.how with⟨rfl,hp⟩|⟨rfl,hp,ps,hI⟩
 · exact ah.yes rfl ⟨Bw,by rw[if_neg (by rw[hp];decide)]⟩
 refine ah.no rfl ?_
 have hp':=hp
 unfold pB at hp'
 rw[Bool.and_eq_true,dTx]at hp'
 obtain⟨hok,hdk⟩:=hp'
 have hdok:=eY.1 hok
 have hps:ps.length <=65536:=hf hdok hdk ps hI.nd hI.reach
 have hddok:=hI.ok hdok hps
 have hddk:dd.k=92:=by rw[hI.k,hdk]
 have hlang:=FM hdk hI
 have DD:=hR.da.das
 have hask:C9 dd jl=true:=by
   unfold C9
   rw[eY.2 hddok,decide_eq_true (by rw[xl,hddk];rfl),ug.2 BC];rfl
 let J1:Int->Option Addr->Nat->Nat->Bool->World->Prop:=λn6 a7 l7 c7 b8 W=>bW wj W/\n6=0/\(b8=false/\(∀u,dd.Lang dd.s u->2048<dM jl u)\/b8=true/\∃u,Ow bY aq W NoB a7 l7 c7 (wI u)/\oG jl (dd.Lang dd.s) u/\dM jl u <=2048)
 have lst:∀{W:World} {a1:Option Addr} {l1 q1:Nat},bW wj W->Ow bY aq W NoB a1 l1 q1 jl->
     Cf eU #[daV a2 n2 c2' b2 m2 e2 dd,.slice a1 l1 q1,vI 2048] W λe23 w23=>∃(a0:Option Addr) (l0 q0:Nat) (bb:Bool) (nn:Int),e23=.returned (.tuple #[.slice a0 l0 q0,.bool bb,vI nn])/\J1 nn a0 l0 q0 bb w23:=by
   intro W a1 l1 q1 hb hO
   refine aw (oP (DD.below hb) hO.all 2048 (by unfold INF;omega) (λh1 _ _=>⟨1,65536,DM,?_,?_⟩)) ?_
   · have:=h1.n2
     have h2:((dd.n-1:Nat):Int) <=65536:=by show((dd.ac.length-1:Nat):Int) <=65536;omega
     omega
   · have h2:dd.n <=65536:=h1.n2
     have:dd.n*(65536+3) <=65536*(65536+3):=Nat.mul_le_mul_right _ h2
     omega
   rintro _ w51 ⟨b51,⟨h1,_⟩|⟨_,⟨hno,rfl⟩|⟨u,a5,n5,c5,rfl,o5,f5,hu,hc⟩⟩⟩
   · rw[hask]at h1;cases h1
   · exact⟨none,0,0,false,0,rfl,ab hb b51 hb.size,rfl,.inl ⟨rfl,hno⟩⟩
   · exact⟨a5,n5,c5,true,0,rfl,ab hb b51 hb.size,rfl,.inr ⟨rfl,u,o5,hu,hc⟩⟩
 have ld2:∀{W:World},bW wj W->(Instr.loadAt ae (.pointer (some ⟨k,0,none⟩))).run prog W=.ok (daV a2 n2 c2' b2 m2 e2 dd) W:=λhb=>bh.load0 (cs:=daL a2 n2 c2' b2 m2 e2 dd) (Aj.below hb) rfl
 have E0:bW wj wj.drew:=aQ wj
 have one:∀{W W':World} {k:Nat},k=W.heap.size->W'=W.alloc (.cells #[vI 1] aq)->Sl bY W' jD (some ⟨k,0,none⟩) 1 1 [1]/\bW W W':=λhk hw=>⟨(Ow.newF (T:=bY) (A:=NoB) (l:=[vI 1]) (xs:=[1]) dF hk hw (gr.one cS) (by decide)).all,hw▸af _ _⟩
 refine⟨J1,⟨⟨_,_,a2,n2,c2',b2,m2,e2,ld2 E0,?_⟩,?_⟩,?_⟩
 · intro k21 w21 hk21 hw21
   obtain⟨S,b21⟩:=one hk21 hw21
   have B:=ab E0 b21 E0.size
   refine aw (lA S (k:=92) (by omega) (by omega)) ?_
   rintro _ w22 ⟨a',rfl,o22,f22,b22⟩
   exact⟨a',92,92,rfl,lst (ab B b22 B.size) o22⟩
 · intro k21 w21 hk21 hw21
   obtain⟨S,b21⟩:=one hk21 hw21
   have B:=ab E0 b21 E0.size
   refine⟨⟨_,_,a2,n2,c2',b2,m2,e2,ld2 B,?_⟩,?_⟩
   · refine aw (lA S (k:=92) (by omega) (by omega)) ?_
     rintro _ w22 ⟨a',rfl,o22,f22,b22⟩
     exact⟨a',92,92,rfl,lst (ab B b22 B.size) o22⟩
   · refine aw (lA S (k:=92) (by omega) (by omega)) ?_
     rintro _ w22 ⟨a',rfl,o22,f22,b22⟩
     have B22:=ab B b22 B.size
     exact⟨a',92,92,rfl,_,_,a2,n2,c2',b2,m2,e2,ld2 B22,lst B22 o22⟩
 intro n6 a7 l7 c7 b8
 refine aL.of ?_ _
 rintro W ⟨hb,rfl,⟨rfl,hno⟩|⟨rfl,u,o5,hu,hc⟩⟩
 · refine⟨λ_=>False,ah.yes rfl ⟨ab Bw hb Bw.size,?_⟩,aL.of (λ_ hc=>hc.elim) _⟩
   rw[if_pos hp]
   exact⟨none,λv hv hs=>hno v ((hlang v).2 ⟨hv,hs⟩),rfl⟩
 · have BW:=ab Bw hb Bw.size
   refine⟨λW'=>W'=W,ah.no rfl (ah.no rfl rfl),aL.of ?_ _⟩
   rintro wq hwq
   rw[hwq];clear hwq wq
   have hu1:=(hlang u).1 hu.1
   have hK:d.K=92:=by unfold DA.K;rw[hdk];rfl
   have hsym:∀x∈u,x<92:=by
     have:=hu1.1.1
     rwa [hK]at this
   have hul:u.length <=2048:=by
     have:=iD hsym
     omega
   refine aw (pO (l:=wI u) (by unfold wI;rw[List.length_map];omega) o5.all) ?_
   rintro _ w36 ⟨rfl,b36⟩
   have hok2:okL (wI u)=true:=by
     unfold okL wI
     rw[List.all_map,List.all_eq_true]
     intro x hx
     have:=hsym x hx
     show(decide (0 <=((x:Nat):Int))&&decide (((x:Nat):Int)<92))=true
     rw[decide_eq_true (by omega),decide_eq_true (by omega)];rfl
   have et:Av (wI u)=GB u:=by unfold Av;rw[if_pos hok2];unfold GB wI;rw[List.map_map];rfl
   refine⟨_,_,rfl,ab BW b36 BW.size,?_⟩
   rw[if_pos hp,hok2,et]
   exact⟨some (GB u),⟨u,hu.congr hlang,hc,rfl⟩,rfl⟩
def Bo:List Bool->Int->Int
 | [],_=> -1
 | true::_,i=>i
 | false::l,i=>Bo l (i+1)
theorem wX {w:World}{A:Bl}{a:Option Addr}{n c:Nat}{xs:List Bool}(hs:Sl ij w A a n c xs):Cf bG #[.slice a n c,.bool true] w (Ret λv w'=>v=vI (Bo xs 0)/\w'=w):=by
 have hn:=hs.len
 subst hn
 have hle:=hs.le
 apply fP
 refine⟨λm i w'=>∃j:Nat,j <=xs.length/\i=(j:Int)/\m=xs.length-j/\Bo xs 0=Bo (xs.drop j) (j:Int)/\w'=w,⟨_,0,by omega,rfl,rfl,rfl,rfl⟩,?_⟩
 intro m i
 refine aL.of ?_ _
 rintro w' ⟨j,hj,rfl,rfl,he,hw'⟩
 rw[hw'];clear hw' w'
 refine ah.of (λh=>?_) (λh=>?_) <;> simp only[dTx,dFx]at h
 · have hlt:j<xs.length:=by omega
   obtain⟨v,hv,hrep⟩:=hs.load1 (P:=prog) (i:=(j:Int)) dl rfl rfl (by simpa using hlt)
   have hb:=xW hrep
   subst hb
   simp only[Int.toNat_natCast]at hv
   rw[List.drop_eq_getElem_cons hlt]at he
   refine⟨⟨⟨by omega,h⟩,hs.isSome hlt⟩,_,hv,?_⟩
   cases hx:xs[j]with
   | true=>
     rw[hx]at he
     exact ah.yes rfl ⟨by rw[he];rfl,rfl⟩
   | false=>
     rw[hx]at he
     exact ah.no rfl ⟨xs.length-(j+1),by omega,j+1,by omega,by rw[ar (by omega) (by omega)];omega,rfl,by rw[he];rfl,rfl⟩
 · have:j=xs.length:=by omega
   subst this
   rw[List.drop_length]at he
   exact⟨by rw[he];rfl,rfl⟩
theorem FR {w:World}{A:Bl}(xs:List Bool):gr ij w A (xs.map .bool) xs:=by
 induction xs with
 | nil=>exact gr.nil _ _ _
 | cons x xs ih=>exact(gr.one (od (b:=x))).append ih
theorem CT {w:World}{k off:Nat}{T:TypeId}{cs:List Value}{xs:List Bool}(h:ai w k T cs)(hc:∀j,j<xs.length->cs[off+j]? =(xs.map Value.bool)[j]?)(hl:xs.length <=maxLen):Sl ij w jD (some ⟨k,off,none⟩) xs.length xs.length xs:=
 ⟨rfl,Nat.le_refl _,hl,.inr ⟨k,off,rfl,h.lt,trivial,xs.map .bool,FR xs,λj hj=>by rw[h.cell];exact hc j (by simpa using hj)⟩⟩
def Rgn.sch (r:Rgn):List Bool:=[r.s0,r.s1]
def Rgn.crs (r:Rgn):List Bool:=[r.c0,r.c1,r.c2]
def Kx:Req:=⟨false,iN,[],0⟩
def Eh (r:Rgn)(rh:Option Hst)(rp:Option (List UInt8)):Option Req:=
 match rh,rp with
 | some g,some t=>if Bo r.sch 0<0\/Bo r.crs 0<0 then none else some ⟨Bo r.sch 0==1,g,t,Bo r.crs 0⟩
 | _,_=>none
def Ir (ts:List Txt)(r:Rgn)(w:World)(v:Value)(w':World):Prop:=bW w w'/\∃(rh:Option Hst) (rp:Option (List UInt8)),wQ ts (r.h.Lang r.h.s) rh/\(∀g,rh=some g->g.ok)/\jH (r.p.Lang r.p.s) rp/\
 v=.tuple #[((Eh r rh rp).getD Kx).v,.bool (Eh r rh rp).isSome,vI 0]
theorem GR {g:Hst}(o:g.ok)(b:Bool)(p:List UInt8)(n:Int)(w:World):(Instr.build aM #[(0,.bool b),(1,g.v),(2,vS p),(3,vI n)]).run prog w=.ok (Req.v ⟨b,g,p,n⟩) w:=by
 obtain⟨k,n',a⟩:=g
 obtain⟨x0,x1,x2,x3,x4,x5,x6,x7,x8,x9,x10,x11,x12,x13,x14,x15,rfl⟩:=wZ a o
 kernel_rfl
set_option maxHeartbeats 1000000 in
theorem rF {w:World}(he:Env w){p:Option Addr}{ts:List Txt}(hA:fH w p ts)(htl:ts.length <=60)(hx:∀t∈ts,t.length <=70){r:Rgn}{x y:Rgp}(hr:RgS w r x y)(hh:hB ts r.h=true)(hp:pB r.p=true)(fh:Few r.h (vT ts))(fp:Few r.p (dK [47])):
   Cf jc #[.pointer p,r.v x y] w (Ret (Ir ts r w)):=by
 apply qH
 intro k3 w3 hk3 hw3 k4 w4 hk4 hw4
 have b3:=(hw3▸af w _:bW w w3)
 have b4:=(hw4▸af w3 _:bW w3 w4)
 have A3:ai w3 k3 ao (r.cells x y):=ai.new hk3 hw3
 have A4:ai w4 k4 aM Kx.cells:=ai.new hk4 hw4
 have B4:=ab b3 b4 b3.size
 have s3:=b3.size
 have A34:=A3.below b4
 refine⟨rfl,_,_,x.a,x.n,x.c,x.b,x.m,x.e,kD A34,?_⟩
 refine aw (sJ (he.step B4) (hA.below B4) htl hx (hr.h.below B4) (λ_ _=>fh)) ?_
 rintro v w20 ⟨b20,hv⟩
 rw[if_pos hh]at hv
 obtain⟨rh,hL,hok,rfl⟩:=hv
 have gok:(rh.getD iN).ok:=by cases rh with
   | none=>exact(rfl:iN.ok)
   | some g=>exact hok g rfl
 have B20:=ab B4 b20 B4.size
 refine⟨_,_,_,rfl,?_⟩
 intro k7 w7 hk7 hw7
 have b7:=(hw7▸af w20 _:bW w20 w7)
 have A7:ai w7 k7 am iN.cells:=ai.new hk7 hw7
 obtain⟨wx,q1,v1,g1⟩:=bF.store0 (P:=prog) (cs:=(rh.getD iN).cells) (Hst.len gok) (Hst.one _) A7 rfl
 have bx:bW w20 wx:=Below.put b7 g1 (by omega)
 have Bx:=ab B20 bx B20.size
 have b4x:=ab b20 bx b20.size
 have A3x:=A34.below b4x
 refine⟨wx,q1,rfl,_,_,y.a,y.n,y.c,y.b,y.m,y.e,kE A3x,?_⟩
 refine aw (sP (hr.p.below Bx) (λ_ _=>fp)) ?_
 rintro v w27 ⟨b27,hv⟩
 rw[if_pos hp]at hv
 obtain⟨rp,hP,rfl⟩:=hv
 have B27:=ab Bx b27 Bx.size
 refine⟨_,_,_,rfl,?_⟩
 intro k33 w33 hk33 hw33
 have b33:=(hw33▸af w27 _:bW w27 w33)
 have B33:=ab B27 b33 B27.size
 have S:Sl bY w33 jD (some ⟨k33,0,none⟩) 2 2 [0,0]:=(Ow.newF (T:=bY) (A:=NoB) (t:=dI) (l:=[vI 0,vI 0]) (xs:=[0,0]) dF hk33 hw33 ((gr.one (cS (n:=0))).append (gr.one (cS (n:=0)))) (show 2 <=maxLen by decide)).all
 refine aw (CB S) ?_
 rintro _ w34 ⟨rfl,hw34⟩
 rw[hw34];clear hw34 w34
 have b433:=ab (ab b4x b27 b4x.size) b33 (ab b4x b27 b4x.size).size
 have A33:=A34.below b433
 have A4z:=A4.below b433
 have A7z:=v1.below (ab b27 b33 b27.size)
 refine⟨_,rfl,ah.no (by decide) ⟨rfl,trivial,?_⟩⟩
 have S2:Sl ij w33 jD (some ⟨k3,8,none⟩) 2 2 r.sch:=CT (xs:=r.sch) A33 (λj hj=>by
   match j,hj with
   | 0,_=>rfl
   | 1,_=>rfl
   | j+2,hj=>exact absurd hj (by show ¬ (j+2<2);omega)) (show 2 <=maxLen by decide)
 have S3:Sl ij w33 jD (some ⟨k3,10,none⟩) 3 3 r.crs:=CT (xs:=r.crs) A33 (λj hj=>by
   match j,hj with
   | 0,_=>rfl
   | 1,_=>rfl
   | 2,_=>rfl
   | j+3,hj=>exact absurd hj (by show ¬ (j+3<3);omega)) (show 3 <=maxLen by decide)
 refine aw (wX S2) ?_
 rintro _ w41 ⟨rfl,hw41⟩
 rw[hw41];clear hw41 w41
 refine⟨_,rfl,rfl,trivial,?_⟩
 refine aw (wX S3) ?_
 rintro _ w44 ⟨rfl,hw44⟩
 rw[hw44];clear hw44 w44
 refine⟨_,rfl,λW=>W=w33/\∃g t,rh=some g/\rp=some t/\ ¬ (Bo r.sch 0<0\/Bo r.crs 0<0),⟨λbb W=>W=w33/\bb=(Eh r rh rp).isNone,?_,λbb=>aL.of ?_ _⟩,aL.of ?_ _⟩
 · cases rh with
   | none=>exact ah.yes rfl ⟨rfl,rfl⟩
   | some g=>
     refine ah.no rfl ?_
     cases rp with
     | none=>exact ah.yes rfl ⟨rfl,rfl⟩
     | some t=>
       refine ah.no rfl (ah.of (λh=>?_) (λh=>?_)) <;> simp only[dTx,dFx]at h
       · exact⟨rfl,by simp[Eh,h]⟩
       · refine⟨rfl,?_⟩
         by_cases h2:Bo r.crs 0<0
         · simp[Eh,h2]
         · simp[Eh,h,h2]
 · rintro wj ⟨hwj,rfl⟩
   rw[hwj];clear hwj wj
   refine ah.of (λh=>?_) (λh=>?_)
   · have hno:Eh r rh rp=none:=by simpa using h
     obtain⟨wq,r3,u3,h3⟩:=jG.store0 (P:=prog) (cs:=Kx.cells) rfl (Req.one _) A4z rfl
     refine⟨wq,r3,_,ai.res (jG.load0 u3 rfl),Below.put B33 h3 (by omega),rh,rp,hL,hok,hP,?_⟩
     rw[hno];rfl
   · refine⟨rfl,?_⟩
     cases rh with
     | none=>simp[Eh]at h
     | some g=>
       cases rp with
       | none=>simp[Eh]at h
       | some t=>
         refine⟨g,t,rfl,rfl,λhc=>?_⟩
         simp[Eh,hc]at h
 · rintro wj ⟨hwj,g,t,rfl,rfl,hno⟩
   rw[hwj];clear hwj wj
   have og:g.ok:=gok
   obtain⟨wq,r3,u3,h3⟩:=jG.store0 (P:=prog) (cs:=(⟨Bo r.sch 0==1,g,t,Bo r.crs 0⟩:Req).cells) (Req.len (r:=⟨_,g,_,_⟩) og) (Req.one _) A4z rfl
   refine⟨_,bF.load0 A7z (Hst.len og),_,GR og _ _ _ _,wq,r3,_,ai.res (jG.load0 u3 (Req.len (r:=⟨_,g,_,_⟩) og)),Below.put B33 h3 (by omega),some g,some t,hL,hok,hP,?_⟩
   have e:Eh r (some g) (some t)=some ⟨Bo r.sch 0==1,g,t,Bo r.crs 0⟩:=if_neg hno
   rw[e];rfl
theorem iQ {w:World}{a b:Option Addr}{n c m e:Nat}{d:DA}(h:DaS w a n c b m e d):
   Cf fK #[daV a n c b m e d] w (Ret λv w'=>v=.bool (okD d)/\bW w w'):=by
 apply vc
 intro k1 w1 hk1 hw1
 have hb:=(hw1▸af w _:bW w w1)
 have A1:ai w1 k1 ae [vI d.k,vI d.st,.slice a n c,.slice b m e]:=ai.new hk1 hw1
 have hx:=h.below hb
 have hm:=hx.ac.len
 have hn:=hx.nx.len
 have hml:=hx.ac.le
 have hnl:=hx.nx.le
 have l0:(Instr.loadAt aq (.pointer (some ⟨k1,0,none⟩))).run prog w1=.ok (vI d.k) w1:=A1.load1 aC rfl rfl
 have l1:(Instr.loadAt aq (.pointer (some ⟨k1,1,none⟩))).run prog w1=.ok (vI d.st) w1:=A1.load1 aC rfl rfl
 have l2:(Instr.loadAt aj (.pointer (some ⟨k1,2,none⟩))).run prog w1=.ok (.slice a n c) w1:=A1.load1 aA rfl rfl
 have no: ¬ d.Ok->Value.bool false=Value.bool (okD d):=λhno=>by
   cases ho:okD d with
   | false=>rfl
   | true=>exact absurd (eY.1 ho) hno
 refine⟨rfl,b,m,e,A1.load1 aS rfl rfl,λw'=>w'=w1/\1 <=d.k/\d.k <=512/\1 <=m/\m <=65536/\(n:Int)=(m:Int)*d.k,⟨rfl,_,l0,?_⟩,aL.of ?_ _⟩
 · refine ah.of (λh1=>⟨no λo=>?_,hb⟩) (λh1=>⟨rfl,_,l0,?_⟩) <;> simp only[dTx,dFx]at h1
   · have:=o.k1;omega
   refine ah.of (λh2=>⟨no λo=>?_,hb⟩) (λh2=>?_) <;> simp only[dTx,dFx]at h2
   · have:=o.k2;omega
   refine ah.of (λh3=>⟨no λo=>?_,hb⟩) (λh3=>?_) <;> simp only[dTx,dFx]at h3
   · have:=o.n1;omega
   refine ah.of (λh4=>⟨no λo=>?_,hb⟩) (λh4=>?_) <;> simp only[dTx,dFx]at h4
   · have:=o.n2;omega
   have hmul:0 <=(m:Int)*d.k/\(m:Int)*d.k <=65536*512:=⟨Int.mul_nonneg (by omega) (by omega),Int.mul_le_mul (by omega) (by omega) (by omega) (by omega)⟩
   refine⟨rfl,a,n,c,l2,rfl,_,l0,?_⟩
   try dsimp only
   rw[show i64.wrap (((m:Nat):Int)*d.k)=(m:Int)*d.k from ar (by omega) (by omega)]
   refine ah.of (λh5=>⟨no λo=>?_,hb⟩) (λh5=>⟨rfl,by omega,by omega,by omega,by omega,by simpa using h5⟩)
   have h5:((n:Nat):Int)≠(m:Int)*d.k:=by simpa using h5
   have:=o.len
   rw[<- hn,<- hm]at this
   exact h5 this
 rintro wj ⟨hwj,h1,h2,h3,h4,h5⟩
 rw[hwj];clear hwj wj
 refine⟨rfl,a,n,c,l2,λM i w'=>∃j:Nat,j <=d.nx.length/\i=(j:Int)/\M=d.nx.length-j/\(d.nx.take j).all (inR (m:Int))=true/\w'=w1,⟨_,0,by omega,rfl,rfl,rfl,rfl⟩,?_⟩
 intro M i
 refine aL.of ?_ _
 rintro w' ⟨j,hj,rfl,rfl,hall,hw'⟩
 rw[hw'];clear hw' w'
 refine ah.of (λh6=>?_) (λh6=>?_) <;> simp only[dTx,dFx]at h6
 · have hlt:j<d.nx.length:=by omega
   have bad: ¬ (0 <=d.nx[j]/\d.nx[j]<(m:Int))-> ¬ d.Ok:=λhno o=>by
     have:=o.nx0 _ (List.getElem_mem hlt)
     rw[<- hm]at this
     exact hno this
   refine⟨⟨⟨by omega,h6⟩,hx.nx.isSome hlt⟩,_,hx.nx.num aC hlt,ah.of (λh7=>⟨no (bad ?_),hb⟩) (λh7=>ah.of (λh8=>⟨no (bad ?_),hb⟩) (λh8=>?_))⟩
   · simp only[dTx]at h7;omega
   · simp only[dTx]at h8;omega
   · simp only[dFx]at h7 h8
     refine⟨d.nx.length-(j+1),by omega,j+1,by omega,by rw[ar (by omega) (by omega)];omega,rfl,?_,rfl⟩
     rw[List.take_succ_eq_append_getElem hlt,List.all_append,hall]
     unfold inR
     rw[List.all_cons,List.all_nil,decide_eq_true (show 0 <=d.nx[j] by omega),decide_eq_true (show d.nx[j]<(m:Int) by omega)];rfl
 · have:j=d.nx.length:=by omega
   subst this
   rw[List.take_length]at hall
   refine⟨rfl,_,l1,ah.of (λh7=>⟨rfl,_,l1,?_,hb⟩) (λh7=>⟨no λo=>?_,hb⟩)⟩
   · simp only[ge_iff_le,dTx]at h7
     congr 1
     unfold okD
     rw[<- hm,<- hn,decide_eq_true h1,decide_eq_true h2,decide_eq_true h3,decide_eq_true h4,decide_eq_true h5,decide_eq_true h7]
     unfold inR at hall
     rw[hall]
     simp
   · simp only[ge_iff_le,dFx]at h7
     have:=o.s0;omega
theorem H7:∀{l m:List Txt},l.Pairwise (· < ·)->m.Pairwise (· < ·)->(∀x,x∈l ↔ x∈m)->l=m
 | [],[],_,_,_=>rfl
 | [],y::m,_,_,h=>absurd ((h y).2 List.mem_cons_self) (by simp)
 | x::l,[],_,_,h=>absurd ((h x).1 List.mem_cons_self) (by simp)
 | x::l,y::m,hl,hm,h=>by
   obtain⟨hx,hl'⟩:=List.pairwise_cons.1 hl
   obtain⟨hy,hm'⟩:=List.pairwise_cons.1 hm
   have e:x=y:=by
     rcases List.mem_cons.1 ((h x).1 List.mem_cons_self)with h1|h1
     · exact h1
     · rcases List.mem_cons.1 ((h y).2 List.mem_cons_self)with h2|h2
       · exact h2.symm
       · exact absurd (List.lt_trans (hy x h1) (hx y h2)) (List.lt_irrefl _)
   subst e
   congr 1
   refine H7 hl' hm' λz=>?_
   have hz:=h z
   rw[List.mem_cons,List.mem_cons]at hz
   constructor
   · intro hzl
     rcases hz.1 (.inr hzl)with h1|h1
     · subst h1;exact absurd (hx z hzl) (List.lt_irrefl _)
     · exact h1
   · intro hzm
     rcases hz.2 (.inr hzm)with h1|h1
     · subst h1;exact absurd (hy z hzm) (List.lt_irrefl _)
     · exact h1
def hwn (s:Txt):Hst:=⟨1,s,ad0⟩
theorem oM {L:List Txt}{s:Txt}(hj:Lib.join L [46]=s)(hne:L≠[])(hl:∀x∈L,bD x=true)(hd:fj (sL L)=false)(hs:s.length <=253):cD (hwn s)=true/\ge (hwn s)=L.reverse:=by
 subst hj
 obtain⟨h1,h2,h3⟩:=np hne hl hd hs
 have h2':cD (hwn (Lib.join L [46]))=true:=h2
 have h3':bX (hwn (Lib.join L [46]))=L:=h3
 refine⟨h2',?_⟩
 unfold ge
 rw[if_pos h2',if_pos (show(hwn (Lib.join L [46])).kind=1 from rfl),h3']
theorem Kb {ts:List Txt}(htl:ts.length <=511){h:Hst}(o:h.ok)(hk:(lL ts h).length <=127):tF (chD (ts.length+1) (lL ts h) 0) (lL ts h) 0:=by
 have:=Fq (k:=ts.length+1) (by omega) (by omega) (tC ts h) (by omega) 0 (by omega)
 simpa using this
theorem wE (a:lU){w K}(h:nA w (.cells cu am) λb c=>∃d,Sv am (vA b 0) (.agg #[vI 1,vS a,.int .u8 0,.int .u8 0,.int .u8 0,.int .u8 0,.int .u8 0,.int .u8 0,.int .u8 0,.int .u8 0,.int .u8 0,.int .u8 0,.int .u8 0,.int .u8 0,.int .u8 0,.int .u8 0,.int .u8 0,.int .u8 0]) c d/\∃e,Rv am (vA b 0) d e/\K e d):Cf kw #[vS a] w (Ret K):=ru func76 [] h
theorem nz {w K}(h:nA w (.cells #[vS [104],vS [99,111,109]] aI) λa b=>uP nf #[.slice (vA a 0) 2 2] b λc d=>uV kw #[vS [104,46,99,111,109]] d λe f=>∃g,(Instr.build kr #[(2,e),(3,.bool true),(4,vS [47,97]),(8,vI 1)]).run prog f=.ok g f/\Cf pC #[.pointer c,g,vI 0] f λi j=>∃k l,i=rT #[k,vI l]/\nA j (.cells dx ao) λm n=>∃o,Sv ao (vA m 0) k n o/\∃p,Ld ao (vA m 0) o p/\Cf jc #[.pointer c,p] o λq r=>∃s t u,q=rT #[s,.bool t,vI u]/\nA r (.cells js aM) λv x=>∃y,Sv aM (vA v 0) s x y/\ah (l==(0:Int)) (ah (u==(0:Int)) (ah t (∃z,(∀A,bW y A->Ld aM (vA v 0) A z)/\∃A,(∀B,bW y B->Cf kw #[vS [104,46,99,111,109]] B λC D=>C=.returned A/\Below y.heap.size B D)/\∃B,(∀C,bW y C->(Instr.build aM #[(1,A),(2,vS [47,97])]).run prog C=.ok B C)/\∃C,(∀D,bW y D->(do eqGuard .eql aM (.tmp 33) (.tmp 35) z B;binOp .eql aM z B:Sem Value).run prog D=.ok (.bool C) D)/\∀D,bW y D->K (.bool C) D) (∀z,bW y z->K (.bool false) z)) (∀z,bW y z->K (.bool false) z)) (∀z,bW y z->K (.bool false) z)):Cf gy #[] w (Ret K):=ru func33 [] h
theorem wF (a:Value){w K}(h:nA w (.cells (Value.cells a) ao) λb c=>true/\true/\∃d e f,Ld aH (vA b 3) c (.slice d e f)/\ah (((e:Nat):Int)==(0:Int)) (true/\true/\∃g i j,Ld aH (vA b 7) c (.slice g i j)/\ah (((i:Nat):Int)==(0:Int)) (true/\true/\∃k,Ld aq (vA b 0) c (vI k)/\ah (k==(0:Int)) (true/\true/\∃l,Ld aq (vA b 4) c (vI l)/\ah (l==(0:Int)) (true/\∃m n,Ld gu (vA b 8) c (.agg #[.bool m,.bool n])/\∃o,(do eqGuard .eql gu (.tmp 29) (.tmp 30) (.agg #[.bool m,.bool n]) (.agg #[.bool false,.bool false]);binOp .eql gu (.agg #[.bool m,.bool n]) (.agg #[.bool false,.bool false]):Sem Value).run prog c=.ok (.bool o) c/\ah o (true/\∃p q r,Ld gv (vA b 10) c (.agg #[.bool p,.bool q,.bool r])/\∃s,(do eqGuard .eql gv (.tmp 35) (.tmp 36) (.agg #[.bool p,.bool q,.bool r]) (.agg #[.bool false,.bool false,.bool false]);binOp .eql gv (.agg #[.bool p,.bool q,.bool r]) (.agg #[.bool false,.bool false,.bool false]):Sem Value).run prog c=.ok (.bool s) c/\K (.bool s) c) (K (.bool false) c)) (K (.bool false) c)) (K (.bool false) c)) (K (.bool false) c)) (K (.bool false) c)):Cf m5 #[a] w (Ret K):=ru func36 [] h
theorem qu (s:Txt)(w:World):Cf kw #[vS s] w (Ret λv w'=>v=(hwn s).v/\bW w w'):=by
 apply wE
 intro k2 w2 hk2 hw2
 have hb2:=(hw2▸af w _:bW w w2)
 have A2:ai w2 k2 am iN.cells:=ai.new hk2 hw2
 obtain⟨wx,s1,v1,g1⟩:=bF.store0 (P:=prog) (cs:=(hwn s).cells) rfl (Hst.one _) A2 rfl
 exact⟨wx,s1,_,ai.res (bF.load0 v1 rfl),rfl,Below.put hb2 g1 (by omega)⟩
theorem yy (w:World):Cf m5 #[rg0.v rp0 rp0] w (Ret λv w'=>v=.bool true/\bW w w'):=by
 apply wF
 intro k1 w1 hk1 hw1
 have hb:=(hw1▸af w _:bW w w1)
 have A1:ai w1 k1 ao (rg0.cells rp0 rp0):=ai.new hk1 hw1
 refine⟨rfl,rfl,none,0,0,A1.load1 aS rfl (i:=3) rfl,ah.yes rfl ⟨rfl,rfl,none,0,0,A1.load1 aS rfl (i:=7) rfl,ah.yes rfl ⟨rfl,rfl,0,A1.load1 aC rfl (i:=0) rfl,ah.yes rfl ⟨rfl,rfl,0,A1.load1 aC rfl (i:=4) rfl,ah.yes rfl ⟨rfl,false,false,?_,true,by kernel_rfl,ah.yes rfl ⟨rfl,false,false,false,?_,true,by kernel_rfl,rfl,hb⟩⟩⟩⟩⟩⟩
 · exact Gm.load A1 (i:=8) (us:=[.bool false,.bool false]) rfl λj hj=>by
     match j,hj with
     | 0,_=>rfl
     | 1,_=>rfl
     | j+2,hj=>omega
 · exact Gn.load A1 (i:=10) (us:=[.bool false,.bool false,.bool false]) rfl λj hj=>by
     match j,hj with
     | 0,_=>rfl
     | 1,_=>rfl
     | 2,_=>rfl
     | j+3,hj=>omega
theorem xV {s:Txt}(hl:s.length <=65534):(dK s).Ok/\(dK s).k=92/\(dK s).st <=1/\(dK s).ac.length <=s.length+2:=by
 by_cases h:kZ s=true
 · have hc:=mS h hl
   have hn:=hc.n
   rw[uM]at hn
   have e:dK s=chD 92 (pw s) (((pw s).length+1:Nat):Int):=by unfold dK;rw[if_pos h]
   refine⟨hc.ok,by rw[e];rfl,by rw[e];exact Int.le_refl _,?_⟩
   have:(dK s).ac.length=s.length+2+1/2:=hn
   omega
 · have e:dK s=noD 92:=by unfold dK;rw[if_neg h]
   rw[e]
   exact⟨FE (by omega) (by omega),rfl,by decide,by show 1 <=s.length+2;omega⟩
theorem uD {o:Txt}(hl:o.length <=60000):(cK o).Ok/\(cK o).k=92/\(cK o).ac.length <=o.length+4:=by
 unfold cK
 by_cases h0:o=[]
 · rw[if_pos h0]
   obtain⟨h1,h2,_,h4⟩:=xV (s:=[47]) (by decide)
   exact⟨h1,h2,by have:([47]:Txt).length=1:=rfl;omega⟩
 rw[if_neg h0]
 by_cases h1:o.head?≠some 47
 · rw[if_pos h1]
   exact⟨FE (by omega) (by omega),rfl,by show 1 <=o.length+4;omega⟩
 rw[if_neg h1]
 by_cases h2:o.getLast?=some 47
 · rw[if_pos h2]
   obtain⟨h1,h2,_,h4⟩:=xV (s:=o) (by omega)
   exact⟨h1,h2,by omega⟩
 rw[if_neg h2]
 by_cases h3:kZ o=true
 · rw[if_pos h3]
   have hl1:(o++[47]).length=o.length+1:=by simp
   obtain⟨q1,q2,_,q4⟩:=xV (s:=o++[47]) (by omega)
   have e:dK (o++[47])=chD 92 (pw (o++[47])) (((pw (o++[47])).length+1:Nat):Int):=by unfold dK;rw[if_pos (nk h3)]
   have est:(dK (o++[47])).st=1:=by rw[e];rfl
   have:=Ka q1 (o.length+1)
   rw[q2,est]at this
   refine⟨this,rfl,?_⟩
   show((dK (o++[47])).ac.set (o.length+1) true).length <=o.length+4
   rw[List.length_set];omega
 · rw[if_neg h3]
   exact⟨FE (by omega) (by omega),rfl,by show 1 <=o.length+4;omega⟩
def xpR:List Txt:=[[99,111,109],[104]]
theorem IU:BL [[104],[99,111,109]]=xpR:=H7 (BM _) (by decide) λx=>by
 rw[Hn];unfold xpR;simp only[List.mem_cons,List.not_mem_nil,or_false];exact Or.comm
theorem HW:ge (hwn [104,46,99,111,109])=[[99,111,109],[104]]:=
 (oM (L:=[[104],[99,111,109]]) (by rw[Lib.join_cons];rfl) (by simp) (by decide) (by decide) (by decide)).2
theorem E1:cD (hwn [104,46,99,111,109])=true:=
 (oM (L:=[[104],[99,111,109]]) (by rw[Lib.join_cons];rfl) (by simp) (by decide) (by decide) (by decide)).1
theorem yd:we [47,97]=true:=by decide
def Bb:Hst:=hwn [104,46,99,111,109]
theorem EY:hwV xpR Bb=[0,1]:=by
 unfold hwV Bb
 rw[HW]
 decide
theorem JX:kB xpR Bb=true:=by
 unfold kB
 rw[EY]
 decide
theorem t7:lL xpR Bb=[0,1]:=by
 have h:=EY
 rw[I4]at h
 have:=congrArg (List.map Int.toNat) h
 rw[List.map_map]at this
 have e:(Int.toNat ∘ fun(x:Nat)=>(x:Int))=id:=funext λx=>Int.toNat_natCast x
 rw[e,List.map_id]at this
 exact this
def Cy:Cky:=⟨[],[],Bb,true,[47,97],false,false,0,1,0,0,0⟩
theorem Dn (w:World):(Instr.build kr #[(2,Bb.v),(3,.bool true),(4,vS [47,97]),(8,vI 1)]).run prog w=.ok Cy.v w:=by kernel_rfl
def Gw:Req:=⟨false,Bb,[47,97],0⟩
theorem Do (w:World):(Instr.build aM #[(1,Bb.v),(2,vS [47,97])]).run prog w=.ok Gw.v w:=by kernel_rfl
theorem G5:(ofR xpR Cy 0).h=chD 3 [0,1] 0:=by
 show chD (xpR.length+1) (lL xpR Bb) 0=_
 rw[t7];rfl
theorem Cw:tF (ofR xpR Cy 0).h [0,1] 0:=by
 have h:=Kb (ts:=xpR) (by decide) (h:=Bb) rfl (by rw[t7];decide)
 rw[t7]at h
 rw[G5];exact h
theorem JW:hB xpR (ofR xpR Cy 0).h=true:=by
 unfold hB
 rw[eY.2 Cw.ok,G5];rfl
theorem JY:pB (ofR xpR Cy 0).p=true:=by
 have h:=uD (o:=[47,97]) (by decide)
 unfold pB
 show(okD (cK [47,97])&&decide ((cK [47,97]).k=92))=true
 rw[eY.2 h.1,h.2.1];rfl
theorem G3:Few (ofR xpR Cy 0).h (vT xpR):=by
 refine Be Cw.ok (Ex (by decide)) (by rw[G5];rfl) ?_
 have h1:=Cw.n
 have h2:(vT xpR).n=4:=rfl
 rw[h1,h2];decide
theorem G4:Few (ofR xpR Cy 0).p (dK [47]):=by
 have h:=uD (o:=[47,97]) (by decide)
 have h2:=xV (s:=[47]) (by decide)
 refine Be (a:=cK [47,97]) h.1 h2.1 (by rw[h.2.1,h2.2.1]) ?_
 have h3:(cK [47,97]).n <=6:=h.2.2
 have h4:(dK [47]).n <=3:=h2.2.2.2
 have:=Nat.mul_le_mul h3 h4
 omega
theorem JZ:[0,1].map (tx xpR)=[[99,111,109],[104]]:=by decide
theorem Cx:cU ([0,1].map (tx xpR))=some Bb/\kP ([0,1].map (tx xpR)):=by
 rw[JZ]
 have h:=Bn (h:=Bb) rfl E1
 have e:ge Bb=[[99,111,109],[104]]:=HW
 rwa [e]at h
theorem EW {L:List Nat->Prop}(hL:∀v,L v ↔ v=[0,1]){r:Option Hst}(hr:wQ xpR L r):r=some Bb:=by
 cases r with
 | none=>
   have h1:=hr [0,1] ((hL _).2 rfl) Cx.2
   have e0:dM (gF xpR) [0,1]=6:=by decide
   omega
 | some g=>
   obtain⟨v,h1,_,h3⟩:=hr
   have e:=(hL v).1 h1.1.1
   subst e
   rw[<- h3,Cx.1]
theorem EX (v:List Nat):(ofR xpR Cy 0).h.Lang (ofR xpR Cy 0).h.s v ↔ v=[0,1]:=by
 have hK:(ofR xpR Cy 0).h.K=3:=by rw[G5];rfl
 rw[Cw.lang v,hK]
 unfold GV
 rw[if_pos rfl]
 exact⟨λh=>h.2,λh=>⟨by rw[h];decide,h⟩⟩
theorem EZ:DN [47,97] [47,97]=true:=by decide
theorem Dm {r:Option (List UInt8)}(h:jH ((cK [47,97]).Lang (cK [47,97]).s) r):r=some [47,97]:=by
 have hK:(cK [47,97]).K=92:=by unfold DA.K;rw[(uD (o:=[47,97]) (by decide)).2.1];rfl
 have hL:∀v,(cK [47,97]).Lang (cK [47,97]).s v->∀x∈v,x<92:=λv hv x hx=>by have:=hv.1 x hx;omega
 have h0:=(uC (o:=[47,97]) yd (by decide)).2 EZ
 cases r with
 | none=>exact absurd h0 (FI hL h yd)
 | some p=>
   obtain⟨h1,h2,h3⟩:=DO hL h
   have h4:=(uC h1 (by decide)).1 h2
   have h5:=h3 [47,97] yd h0
   unfold DN at h4
   rw[Bool.or_eq_true,beq_iff_eq,Bool.and_eq_true,dTx]at h4
   rcases h4 with h4|h4
   · rw[h4]
   · have:=h4.1
     simp only[List.length_cons,List.length_nil]at this h5
     omega
theorem IV:Eh (ofR xpR Cy 0) (some Bb) (some [47,97])=some Gw:=rfl
def Hx (r q:Req):Bool:=(r.sec==q.sec)&&(Dz r.host q.host&&((r.path==q.path)&&((r.cross==q.cross)&&true)))
theorem zZa {u v:Req}(o:u.ok)(p:v.ok):Hx u v=true ↔ u=v:=by
 unfold Hx
 simp only[Bool.and_eq_true,beq_iff_eq,and_true,lv o p]
 cases u;cases v;simp
theorem zZc {c d:Req}(o:c.ok)(p:d.ok):eqV prog 10000 aM c.v d.v=some (Hx c d):=by
 obtain⟨d1,⟨e1,e2,e3⟩,d2,d3⟩:=c
 obtain⟨d1',⟨e1',e2',e3'⟩,d2',d3'⟩:=d
 obtain⟨x0,x1,x2,x3,x4,x5,x6,x7,x8,x9,x10,x11,x12,x13,x14,x15,rfl⟩:=wZ e3 o
 obtain⟨y0,y1,y2,y3,y4,y5,y6,y7,y8,y9,y10,y11,y12,y13,y14,y15,rfl⟩:=wZ e3' p
 kernel_rfl
theorem Fb:prog.eqGuardType prog.depth aM=false:=by kernel_rfl
theorem Kf {c d:Req}(o:c.ok)(p:d.ok){x y:Operand}(w:World):((do eqGuard .eql aM x y c.v d.v;binOp .eql aM c.v d.v:Sem Value)).run prog w=.ok (.bool (Hx c d)) w:=
 Am Fb (zZc o p) w
set_option maxHeartbeats 1000000 in
theorem wg {w:World}(he:Env w):Cf gy #[] w (Ret λv w'=>v=.bool true/\bW w w'):=by
 apply nz
 intro k7 w7 hk7 hw7
 have b7:=(hw7▸af w _:bW w w7)
 have O:Ow tS aI w7 NoB (some ⟨k7,0,none⟩) 2 2 [[104],[99,111,109]]:=
   Ow.newF (l:=[vS [104],vS [99,111,109]]) (T:=tS) (qi _) hk7 hw7 (gK (e:=λs=>vS s) (h1:=λ_=>rfl) (p:=λ_=>True) (xs:=[[104],[99,111,109]]) (λ_ _=>trivial)) (show 2 <=maxLen by decide)
 refine aw (yY _ 2 2 [[104],[99,111,109]] (by decide) w7 O.all) ?_
 rintro _ w8 ⟨p,rfl,hA,b8⟩
 rw[IU]at hA
 have B8:=ab b7 b8 b7.size
 refine⟨p,rfl,?_⟩
 refine aw (qu [104,46,99,111,109] w8) ?_
 rintro _ w11 ⟨rfl,b11⟩
 have B11:=ab B8 b11 B8.size
 refine⟨_,rfl,_,Dn w11,?_⟩
 refine aw (Ac (c:=Cy) rfl (by decide) (by decide) (he.step B11) (hA.below b11) (by decide) 0) ?_
 rintro v w13 ⟨b13,hv⟩
 rw[if_pos (show kB xpR Cy.host=true from JX)]at hv
 obtain⟨x,y,rfl,hO⟩:=hv
 have hS:=hO.s
 have B13:=ab B11 b13 B11.size
 refine⟨_,0,rfl,?_⟩
 intro k2 w2 hk2 hw2
 have b2:=(hw2▸af w13 _:bW w13 w2)
 have A2:ai w2 k2 ao (rg0.cells rp0 rp0):=ai.new hk2 hw2
 obtain⟨wx,q1,v1,g1⟩:=bo.store0 (P:=prog) (cs:=(ofR xpR Cy 0).cells x y) rfl (Rgn.one _ _ _) A2 rfl
 have bx:bW w13 wx:=Below.put b2 g1 (by omega)
 have Bx:=ab B13 bx B13.size
 refine⟨wx,q1,_,bo.load0 v1 rfl,?_⟩
 refine aw (rF (he.step Bx) (((hA.below b11).below b13).below bx) (by decide) (by decide) (hS.below bx) JW JY G3 G4) ?_
 rintro v w19 ⟨b19,rh,rp,hL,hok,hP,rfl⟩
 have B19:=ab Bx b19 Bx.size
 obtain rfl:=EW EX hL
 obtain rfl:=Dm hP
 rw[IV]
 refine⟨Gw.v,true,0,rfl,?_⟩
 intro k4 w4 hk4 hw4
 have b4:=(hw4▸af w19 _:bW w19 w4)
 have A4:ai w4 k4 aM Kx.cells:=ai.new hk4 hw4
 obtain⟨wy,q2,v2,g2⟩:=jG.store0 (P:=prog) (cs:=Gw.cells) (Req.len (r:=Gw) rfl) (Req.one _) A4 rfl
 have by_:bW w19 wy:=Below.put b4 g2 (by omega)
 have By:=ab B19 by_ B19.size
 refine⟨wy,q2,ah.yes rfl (ah.yes rfl (ah.yes rfl ⟨_,λu hu=>jG.load0 (v2.below hu) (Req.len (r:=Gw) rfl),_,λu hu=>uO (qu [104,46,99,111,109] u) hu,_,λu hu=>Do u,_,λu hu=>Kf (c:=Gw) (d:=Gw) rfl rfl u,λwq hq=>⟨?_,ab By hq By.size⟩⟩))⟩
 rw[(zZa (u:=Gw) (v:=Gw) rfl rfl).2 rfl]
open Go.ChangeMaps (setBlock)
section
variable {α β:Type} [DecidableEq α]
def pn (ek:α->Value)(ev:β->Value)(w:World)(r:Nat)(kvs:List (α×β)):Prop:=
 ∃es clock,w.heap[r]? =some (.map es clock)/\KVg ek ev es.toList kvs/\(es.toList.map (·.born)).Nodup/\∀e∈es.toList,e.born<clock
variable {ek:α->Value} {ev:β->Value}
theorem pn.g {w:World}{r:Nat}{kvs:List (α×β)}(h:pn ek ev w r kvs):sg ek ev w r kvs:=by
 obtain⟨es,c,hh,hk,_⟩:=h
 exact⟨es,c,hh,hk⟩
theorem pn.lt {w:World}{r:Nat}{kvs:List (α×β)}(h:pn ek ev w r kvs):r<w.heap.size:=h.g.lt
theorem pn.keep {w w':World}{r:Nat}{kvs:List (α×β)}(h:pn ek ev w r kvs)(hb:w'.heap[r]? =w.heap[r]?):pn ek ev w' r kvs:=by
 obtain⟨es,c,hh,hk⟩:=h
 exact⟨es,c,hb.trans hh,hk⟩
theorem pn.below {w w':World}{r:Nat}{kvs:List (α×β)}(h:pn ek ev w r kvs)(hb:bW w w'):pn ek ev w' r kvs:=h.keep (hb.block r h.lt)
theorem pn.grown {w w':World}{r:Nat}{kvs:List (α×β)}(h:pn ek ev w r kvs){k:Nat}(hg:w.grownBy w' (some k))(hne:r≠k):pn ek ev w' r kvs:=h.keep (hg.block r h.lt λe=>hne (Option.some.inj e))
theorem pn.new {w w':World}{r:Nat}(hr:r=w.heap.size)(hw:w'=w.alloc (.map #[] 0)):pn ek ev w' r []:=by
 subst hr hw
 exact⟨#[],0,heap_alloc_new w _,rfl,List.nodup_nil,λe he=>by cases he⟩
theorem I9 {es:List MapEntry}{kvs:List (α×β)}(h:KVg ek ev es kvs):es.length=kvs.length:=by
 have:=congrArg List.length h
 simpa using this
theorem xv {P:Program}{w:World}{r:Nat}{es:Array MapEntry}{c:Nat}(h:w.heap[r]? =some (.map es c))(o:Obj):(setObj r o).run P w=.ok () { w with heap:=w.heap.setIfInBounds r o } :=by
 simp only[setObj,Sem.run,h]
theorem uk {w:World}{r:Nat}(o:Obj):w.grownBy { w with heap:=w.heap.setIfInBounds r o } (some r):=
 ⟨rfl,rfl,rfl,by simp,λj hj hne=>by
   have:r≠j:=λe=>hne (by rw[e])
   simp[Array.getElem?_setIfInBounds_ne this]⟩
def upG (k:α)(v:β)(kvs:List (α×β)):List (α×β):=match i6 k kvs 0 with
 | some (i,_)=>kvs.set i (k,v)
 | none=>kvs++[(k,v)]
theorem uA (k:α):∀(l:List (α×β)) (i j:Nat) (v:β),i6 k l i=some (j,v)->i <=j/\l[j-i]? =some (k,v)
 | [],i,j,v,h=>by cases h
 | (k',v')::l,i,j,v,h=>by
   unfold i6 at h
   split at h
   · rename_i e
     subst e
     cases h
     exact⟨Nat.le_refl _,by rw[Nat.sub_self];rfl⟩
   · obtain⟨h1,h2⟩:=uA k l (i+1) j v h
     refine⟨by omega,?_⟩
     rw[show j-i=(j-(i+1))+1 by omega,List.getElem?_cons_succ]
     exact h2
theorem DG {es:List MapEntry}{kvs:List (α×β)}(h:KVg ek ev es kvs){i:Nat}{k:α}{v v':β}(hi:kvs[i]? =some (k,v'))(f:MapEntry->MapEntry)(hf:∀e,e.key=ek k->(f e).key=ek k/\(f e).val=ev v):KVg ek ev (es.modify i f) (kvs.set i (k,v)):=by
 unfold KVg at h ⊢
 apply List.ext_getElem?
 intro j
 have hj:=congrArg (λl=>l[j]?) h
 simp only[List.getElem?_map]at hj ⊢
 rw[List.getElem?_modify,List.getElem?_set]
 by_cases e:i=j
 · subst e
   rw[if_pos rfl]
   rw[hi]at hj
   cases he:es[i]? with
   | none=>rw[he]at hj;cases hj
   | some x=>
     rw[he]at hj
     have hx:x.key=ek k:=congrArg Prod.fst (Option.some.inj hj)
     obtain⟨f1,f2⟩:=hf x hx
     have hlt:i<kvs.length:=(List.getElem?_eq_some_iff.1 hi).1
     rw[if_pos hlt]
     simp[f1,f2]
 · rw[if_neg e]
   cases he:es[j]? with
   | none=>rw[he]at hj;simpa using hj
   | some x=>rw[he]at hj;simpa[e]using hj
theorem tL (es:List MapEntry)(i:Nat)(f:MapEntry->MapEntry)(hf:∀e,(f e).born=e.born):(es.modify i f).map (·.born)=es.map (·.born):=by
 apply List.ext_getElem?
 intro j
 rw[List.getElem?_map,List.getElem?_map,List.getElem?_modify]
 cases es[j]? with
 | none=>rfl
 | some x=>by_cases e:i=j <;> simp[e,hf]
theorem IF {es es':List MapEntry}{c:Nat}(h:∀e∈es,e.born<c)(he:es'.map (·.born)=es.map (·.born)):∀e∈es',e.born<c:=λe hm=>by
 have:e.born∈es.map (·.born):=by rw[<- he];exact List.mem_map.2 ⟨e,hm,rfl⟩
 obtain⟨x,hx,hxe⟩:=List.mem_map.1 this
 rw[<- hxe];exact h x hx
theorem F6 {P:Program}{v:Value}(h:Instr.sameBits 10000 v v=true)(w:World):(Instr.keyThatStays v v).run P w=.ok v w:=by
 unfold Instr.keyThatStays
 rw[if_pos h];rfl
theorem pn.up {P:Program}{mt kt et:TypeId}(hm:P.underlying mt=some (.map kt et))(hk:pm P kt ek)(hs:∀k,Instr.sameBits 10000 (ek k) (ek k)=true){w:World}{r:Nat}{kvs:List (α×β)}(h:pn ek ev w r kvs)(k:α)(v:β):
   ∃w',(Instr.mapUpdate mt (.map (some r)) (ek k) (ev v)).run P w=.ok () w'/\pn ek ev w' r (upG k v kvs)/\w.grownBy w' (some r):=by
 obtain⟨es,c,hh,hkv,hn,hc⟩:=h
 have hlt:r<w.heap.size:=(Array.getElem?_eq_some_iff.1 hh).1
 unfold Instr.mapUpdate upG
 cases hi:i6 k kvs 0 with
 | none=>
   refine⟨_,?_,⟨es.push { key:=ek k,val:=ev v,born:=c },c+1,?_,?_,?_,?_⟩,uk (.map (es.push { key:=ek k,val:=ev v,born:=c }) (c+1))⟩
   · simp only[Sem.run_bind,aY hm,Result.andThen_ok,rr hh,hk.check,hk.find ev k _ _ _ hkv,hi,Option.map_none,xv hh]
   · simp[hlt]
   · unfold KVg at hkv ⊢
     simp only[Array.toList_push,List.map_append,List.map_cons,List.map_nil,hkv]
   · rw[Array.toList_push,List.map_append,List.nodup_append]
     refine⟨hn,by simp,λa ha b hb=>?_⟩
     obtain⟨e,he,rfl⟩:=List.mem_map.1 ha
     simp only[List.map_cons,List.map_nil,List.mem_singleton]at hb
     have:=hc e he
     omega
   · intro e he
     rw[Array.toList_push]at he
     rcases List.mem_append.1 he with he|he
     · have:=hc e he;omega
     · rw[List.mem_singleton.1 he];exact Nat.lt_succ_self _
 | some p=>
   obtain⟨i,v'⟩:=p
   obtain⟨_,hat⟩:=uA k kvs 0 i v' hi
   rw[Nat.sub_zero]at hat
   have hkey:((es[i]?).map (·.key)).getD (ek k)=ek k:=by
     have:=congrArg (λl=>l[i]?) hkv
     simp only[List.getElem?_map,hat,Array.getElem?_toList]at this
     cases he:es[i]? with
     | none=>rfl
     | some x=>
       rw[he]at this
       exact congrArg Prod.fst (Option.some.inj this)
   refine⟨_,?_,⟨es.modify i (λe=> { e with key:=ek k,val:=ev v }),c,?_,?_,?_,?_⟩,uk (.map (es.modify i λe=> { e with key:=ek k,val:=ev v }) c)⟩
   · simp only[Sem.run_bind,aY hm,Result.andThen_ok,rr hh,hk.check,hk.find ev k _ _ _ hkv,hi,Option.map_some,hkey,F6 (hs k),xv hh]
   · simp[hlt]
   · rw[Array.toList_modify];exact DG hkv hat _ λe _=>⟨rfl,rfl⟩
   · rw[Array.toList_modify,tL es.toList i (λe=> { e with key:=ek k,val:=ev v }) (λe=>rfl)];exact hn
   · rw[Array.toList_modify];exact IF hc (tL es.toList i (λe=> { e with key:=ek k,val:=ev v }) (λe=>rfl))
def iU (ek:α->Value)(ev:β->Value)(w:World)(r m:Nat)(kvs left:List (α×β)):Prop:=
 ∃since seen c0 es clock,w.heap[r]? =some (.mapIter (some m) since seen c0)/\w.heap[m]? =some (.map es clock)/\KVg ek ev es.toList kvs/\(es.toList.map (·.born)).Nodup/\(∀e∈es.toList,e.born<clock)/\(∀e∈es.toList,e.born<since)/\since <=c0/\since <=clock/\KVg ek ev (leftOf es seen).toList left
theorem iU.map {w:World}{r m:Nat}{kvs left:List (α×β)}(h:iU ek ev w r m kvs left):pn ek ev w m kvs:=by
 obtain⟨_,_,_,es,c,_,h2,h3,h4,h5,_⟩:=h
 exact⟨es,c,h2,h3,h4,h5⟩
theorem iU.keep {w w':World}{r m:Nat}{kvs left:List (α×β)}(h:iU ek ev w r m kvs left)(hr:w'.heap[r]? =w.heap[r]?)(hm:w'.heap[m]? =w.heap[m]?):iU ek ev w' r m kvs left:=by
 obtain⟨a,b,c,d,e,h1,h2,h3⟩:=h
 exact⟨a,b,c,d,e,hr.trans h1,hm.trans h2,h3⟩
theorem iU.lt {w:World}{r m:Nat}{kvs left:List (α×β)}(h:iU ek ev w r m kvs left):r<w.heap.size:=by
 obtain⟨_,_,_,_,_,h1,_⟩:=h
 exact(Array.getElem?_eq_some_iff.1 h1).1
theorem iU.below {w w':World}{r m:Nat}{kvs left:List (α×β)}(h:iU ek ev w r m kvs left)(hb:bW w w'):iU ek ev w' r m kvs left:=h.keep (hb.block r h.lt) (hb.block m h.map.lt)
theorem FQ {P:Program}{mt kt et:TypeId}(hm:P.underlying mt=some (.map kt et)){w:World}{m:Nat}{kvs:List (α×β)}(h:pn ek ev w m kvs):
   ∃w',(Instr.range mt (.map (some m))).run P w=.ok (.pointer (some ⟨w.heap.size,0,none⟩)) w'/\iU ek ev w' w.heap.size m kvs kvs/\bW w w':=by
 obtain⟨es,c,hh,hkv,hn,hc⟩:=h
 refine⟨w.alloc (.mapIter (some m) c #[] c),?_,⟨c,#[],c,es,c,heap_alloc_new w _,?_,hkv,hn,hc,hc,Nat.le_refl _,Nat.le_refl _,?_⟩,af w _⟩
 · unfold Instr.range
   simp only[Sem.run_bind,aY hm,Result.andThen_ok,rr hh,Sem.run_pure]
   rfl
 · exact((af w _).block m (Array.getElem?_eq_some_iff.1 hh).1).trans hh
 · have:leftOf es #[]=es:=by
     unfold leftOf
     rw[Array.filter_eq_self]
     intro e he
     simp
   rw[this];exact hkv
theorem wU {γ:Type}(f:γ->Nat):∀(l:List γ) (e:γ),(l.map f).Nodup->e∈l->∃l1 l2,l=l1++e::l2/\l.filter (λx=> !decide (f x=f e))=l1++l2
 | [],e,_,h=>by cases h
 | x::l,e,hn,h=>by
   rw[List.map_cons,List.nodup_cons]at hn
   rcases List.mem_cons.1 h with rfl|h
   · refine⟨[],l,rfl,?_⟩
     rw[List.filter_cons,if_neg (by simp),List.nil_append,List.filter_eq_self]
     intro y hy
     have:f y≠f e:=λc=>hn.1 (List.mem_map.2 ⟨y,hy,c⟩)
     simp[this]
   · obtain⟨l1,l2,h1,h2⟩:=wU f l e hn.2 h
     refine⟨x::l1,l2,by rw[h1];rfl,?_⟩
     have:f x≠f e:=λc=>hn.1 (List.mem_map.2 ⟨e,h,c.symm⟩)
     rw[List.filter_cons,if_pos (by simp[this]),h2];rfl
theorem iU.step {P:Program}{w:World}{r m:Nat}{kvs left:List (α×β)}(h:iU ek ev w r m kvs left)(hne:r≠m)(ty:TypeId):
   (left=[]/\(Instr.next (.pointer (some ⟨r,0,none⟩)) false ty).run P w=.ok (.tuple #[.bool false]) w)\/
   ∃l1 k v l2 w',left=l1++(k,v)::l2/\(Instr.next (.pointer (some ⟨r,0,none⟩)) false ty).run P w=.ok (.tuple #[.bool true,ek k,ev v]) w'/\iU ek ev w' r m kvs (l1++l2)/\(Instr.entry (.pointer (some ⟨r,0,none⟩))).run P w'=.ok (.tuple #[ek k,ev v]) w'/\w.grownBy w' (some r):=by
 obtain⟨since,seen,c0,es,clock,hr,hm,hkv,hn,hc,hs,hsc,hsk,hl⟩:=h
 rcases run_next_at (P:=P) w ty r m since c0 seen es clock hr hm hs hsc with⟨h0,hrun⟩|⟨e,he,w1,hw1,hrun⟩
 · refine .inl ⟨?_,hrun⟩
   have:=I9 hl
   rw[Array.length_toList,h0]at this
   exact List.eq_nil_of_length_eq_zero this.symm
 · refine .inr ?_
   have hrl:r<w.heap.size:=(Array.getElem?_eq_some_iff.1 hr).1
   have hhp:w1.heap=w.heap:=by rcases hw1 with rfl|rfl <;> rfl
   have hel:=mem_left he
   have hleft:(leftOf es (seen.push e.born)).toList=(leftOf es seen).toList.filter λx=> !decide (x.born=e.born):=by
     unfold leftOf
     rw[Array.toList_filter,Array.toList_filter,List.filter_filter]
     exact List.filter_congr λx hx=>by
       rw[Bool.eq_iff_iff]
       simp[Array.mem_push,and_comm]
   have hnl:((leftOf es seen).toList.map (·.born)).Nodup:=by
     unfold leftOf
     rw[Array.toList_filter]
     exact hn.sublist ((List.filter_sublist).map _)
   obtain⟨l1,l2,e1,e2⟩:=wU (·.born) _ e hnl he
   have hkl:=hl
   unfold KVg at hkl
   rw[e1,List.map_append,List.map_cons]at hkl
   obtain⟨q1,q2,hq,hq1,hq2⟩:=List.map_eq_append_iff.1 hkl.symm
   cases q2 with
   | nil=>cases hq2
   | cons p q2=>
     obtain⟨k,v⟩:=p
     rw[List.map_cons,List.cons.injEq]at hq2
     have hkey:e.key=ek k:=(congrArg Prod.fst hq2.1).symm
     have hval:e.val=ev v:=(congrArg Prod.snd hq2.1).symm
     have hset:(setBlock w1 r (.mapIter (some m) since (seen.push e.born) clock)).heap[r]? =some (.mapIter (some m) since (seen.push e.born) clock):=by
       unfold setBlock
       simp[hhp,hrl]
     have hset2:(setBlock w1 r (.mapIter (some m) since (seen.push e.born) clock)).heap[m]? =some (.map es clock):=by
       unfold setBlock
       simp only[hhp]
       rw[Array.getElem?_setIfInBounds_ne hne];exact hm
     refine⟨q1,k,v,q2,setBlock w1 r (.mapIter (some m) since (seen.push e.born) clock),hq,?_,⟨since,seen.push e.born,clock,es,clock,hset,hset2,hkv,hn,hc,hs,hsk,hsk,?_⟩,?_,?_⟩
     · rw[<- hkey,<- hval];exact hrun
     · unfold KVg
       rw[hleft,e2,List.map_append,List.map_append,hq1,hq2.2]
     · rw[<- hkey,<- hval]
       exact run_entry_at _ r m since seen es clock e hset hset2 hel.1 hn
     · rcases hw1 with rfl|rfl
       · exact uk _
       · have hd:=aQ w
         refine⟨hd.os,hd.tape,hd.output,?_,λj hj hnj=>?_⟩
         · have:=hd.size
           show _ <=(Array.setIfInBounds _ _ _).size
           rw[Array.size_setIfInBounds];exact this
         · have:r≠j:=λc=>hnj (by rw[c])
           show(Array.setIfInBounds _ _ _)[j]? =_
           rw[Array.getElem?_setIfInBounds_ne this]
           exact hd.block j hj
end
def ekN (k:IntKind)(n:Nat):Value:=.int k ((n:Nat):Int)
theorem ue {β:Type}(ik:IntKind)(ev:β->Value)(k:Nat):∀(es:List MapEntry) (kvs:List (Nat×β)) (i:Nat),KVg (ekN ik) ev es kvs->
   Instr.findNow (.int ik) (ekN ik k) es i=some ((i6 k kvs i).map λp=>(p.1,ev p.2))
 | [],kvs,i,h=>by
   have:kvs=[]:=by
     unfold KVg at h;simp at h;exact h
   subst this;rfl
 | e::es,[],i,h=>by unfold KVg at h;simp at h
 | e::es,(k',v)::kvs,i,h=>by
   unfold KVg at h
   simp only[List.map_cons,List.cons.injEq,Prod.mk.injEq]at h
   obtain⟨⟨hk,hv⟩,ht⟩:=h
   unfold Instr.findNow i6
   rw[hk]
   unfold ekN
   simp only[Instr.sameNow]
   by_cases e1:k=k'
   · simp[e1,hv]
   · have e2:((((k:Nat):Int))==(((k':Nat):Int)))=false:=by
       rw[beq_eq_false_iff_ne];omega
     simp only[e1,e2,decide_false,if_false,if_true]
     exact ue ik ev k es kvs (i+1) ht
theorem pm.int {P:Program}{kt:TypeId}{ik:IntKind}(hu:P.underlying kt=some (.int ik)):pm P kt (ekN ik) where
 check:=λb k w=>by
   show(Instr.checkKey b (9999+1) kt _).run P w=_
   unfold Instr.checkKey
   rw[Sem.run_bind,aY hu,Result.andThen_ok]
   rfl
 find:=λev k es kvs w h=>by
   unfold Instr.findKey
   rw[Sem.run_bind,aY hu,Result.andThen_ok,ue ik ev k es kvs 0 h]
   rfl
theorem yT (ik:IntKind)(k:Nat):Instr.sameBits 10000 (ekN ik k) (ekN ik k)=true:=by
 show Instr.sameBits (9999+1) _ _=true
 simp[Instr.sameBits,ekN]
theorem cL {a:Option Addr}{b:Nat} :b∈(bi a).toList ↔ bi a=some b:=by simp
structure Pt where
 fp:List Nat
 P:World->Prop
 st:∀{w w':World},P w->oF (λb=>b∈fp) w w'->P w'
 lt:∀{w:World},P w->∀b∈fp,b<w.heap.size
def ptA (k:Nat)(t:TypeId)(vs:List Value):Pt where
 fp:=[k]
 P:=λw=>ai w k t vs
 st:=λh hk=>h.block (hk.block k h.lt List.mem_cons_self)
 lt:=λh b hb=>by rw[List.mem_singleton]at hb;subst hb;exact h.lt
def ptO {α:Type}(T:Ty α)(t:TypeId)(a:Option Addr)(n c:Nat)(xs:List α):Pt where
 fp:=(bi a).toList
 P:=λw=>Ow T t w NoB a n c xs
 st:=λh hk=>h.keep (hk.mono λb hb=>by
   rcases hb with hb|hb
   · exact hb.elim
   · exact cL.2 hb.symm)
 lt:=λh b hb=>h.lt b (cL.1 hb)
structure St (ps:List Pt)(w:World):Prop where
 hold:∀p∈ps,p.P w
 ap:∀(i j:Nat) (p q:Pt),ps[i]? =some p->ps[j]? =some q->i≠j->∀b∈p.fp,b ∉ q.fp
theorem St.at {ps:List Pt}{w:World}(h:St ps w)(i:Nat){p:Pt}(hi:ps[i]? =some p):p.P w:=h.hold p (List.mem_of_getElem? hi)
theorem St.nil (w:World):St [] w:=⟨λp hp=>(by cases hp),λi j p q hp=>by simp at hp⟩
theorem St.upd {ps:List Pt}{w w':World}(h:St ps w)(i:Nat){p p':Pt}(hi:ps[i]? =some p)(hc:Chg p.fp w w')(hp:p'.P w')(hf:∀b∈p'.fp,b∈p.fp\/w.heap.size <=b):St (ps.set i p') w':=by
 have old:∀(j:Nat) (q:Pt),ps[j]? =some q->j≠i->q.P w'/\∀b∈p'.fp,b ∉ q.fp:=λj q hq hne=>by
   have hq0:=h.at j hq
   refine⟨q.st hq0 (hc.keep.mono λb hb hb2=>h.ap j i q p hq hi hne b hb hb2),λb hb hb2=>?_⟩
   rcases hf b hb with h1|h1
   · exact h.ap j i q p hq hi hne b hb2 h1
   · have:=q.lt hq0 b hb2;omega
 refine⟨λq hq=>?_,λj k q r hq hr hne b hb hb2=>?_⟩
 · obtain⟨j,hj⟩:=List.mem_iff_getElem?.1 hq
   rcases jg hj with⟨_,rfl⟩|⟨hne,hj⟩
   · exact hp
   · exact(old j q hj hne).1
 · rcases jg hq with⟨e1,rfl⟩|⟨hn1,hq1⟩ <;> rcases jg hr with⟨e2,rfl⟩|⟨hn2,hr1⟩
   · omega
   · exact(old k r hr1 hn2).2 b hb hb2
   · exact(old j q hq1 hn1).2 b hb2 hb
   · exact h.ap j k q r hq1 hr1 hne b hb hb2
theorem St.keep {ps:List Pt}{w w':World}(h:St ps w)(hk:oF (λb=>∃p∈ps,b∈p.fp) w w'):St ps w':=
 ⟨λp hp=>p.st (h.hold p hp) (hk.mono λb hb=>⟨p,hp,hb⟩),h.ap⟩
theorem St.below {ps:List Pt}{w w':World}(h:St ps w)(hb:bW w w'):St ps w':=h.keep (rk hb _)
theorem St.add {ps:List Pt}{w w':World}(h:St ps w)(hb:bW w w'){p:Pt}(hp:p.P w')(hf:∀b∈p.fp,w.heap.size <=b):St (p::ps) w':=by
 refine⟨λq hq=>?_,λi j q r hq hr hne b hb1 hb2=>?_⟩
 · rcases List.mem_cons.1 hq with rfl|hq
   · exact hp
   · exact(h.below hb).hold q hq
 · cases i with
   | zero=>
     cases j with
     | zero=>exact hne rfl
     | succ j=>
       simp only[List.getElem?_cons_zero,List.getElem?_cons_succ,Option.some.injEq]at hq hr
       subst hq
       have:=r.lt (h.at j hr) b hb2
       have:=hf b hb1
       omega
   | succ i=>
     cases j with
     | zero=>
       simp only[List.getElem?_cons_zero,List.getElem?_cons_succ,Option.some.injEq]at hq hr
       subst hr
       have:=q.lt (h.at i hq) b hb1
       have:=hf b hb2
       omega
     | succ j=>
       simp only[List.getElem?_cons_succ]at hq hr
       exact h.ap i j q r hq hr (by omega) b hb1 hb2
theorem St.sub {ps qs:List Pt}{w:World}(h:St ps w)(f:Nat->Nat)(hf:∀i q,qs[i]? =some q->ps[f i]? =some q)(hi:∀i j,i<qs.length->j<qs.length->f i=f j->i=j):St qs w:=by
 refine⟨λq hq=>?_,λi j p q hp hq hne=>?_⟩
 · obtain⟨i,hi⟩:=List.mem_iff_getElem?.1 hq
   exact h.at (f i) (hf i q hi)
 · have l1:=(List.getElem?_eq_some_iff.1 hp).1
   have l2:=(List.getElem?_eq_some_iff.1 hq).1
   exact h.ap (f i) (f j) p q (hf i p hp) (hf j q hq) λe=>hne (hi i j l1 l2 e)
theorem St.tail {p:Pt}{ps:List Pt}{w:World}(h:St (p::ps) w):St ps w:=h.sub (· +1) (λi q hq=>by rw[List.getElem?_cons_succ];exact hq) λi j _ _ e=>by omega
theorem St.low {ps:List Pt}{B:Nat}(hB:∀p∈ps,∀b∈p.fp,B <=b){i:Nat}{p:Pt}(hi:ps[i]? =some p):∀b∈p.fp,B <=b:=hB p (List.mem_of_getElem? hi)
structure Sp (w0:World)(ps:List Pt)(w:World):Prop where
 st:St ps w
 low:∀p∈ps,∀b∈p.fp,w0.heap.size <=b
 bw:bW w0 w
theorem Sp.at {w0 w:World}{ps:List Pt}(h:Sp w0 ps w)(i:Nat){p:Pt}(hi:ps[i]? =some p):p.P w:=h.st.at i hi
theorem Sp.below {w0 w w':World}{ps:List Pt}(h:Sp w0 ps w)(hb:bW w w'):Sp w0 ps w':=⟨h.st.below hb,h.low,ab h.bw hb h.bw.size⟩
theorem Sp.upd {w0 w w':World}{ps:List Pt}(h:Sp w0 ps w)(i:Nat){p p':Pt}(hi:ps[i]? =some p)(hc:Chg p.fp w w')(hp:p'.P w')(hf:∀b∈p'.fp,b∈p.fp\/w.heap.size <=b):Sp w0 (ps.set i p') w':=by
 have hl:=h.low p (List.mem_of_getElem? hi)
 refine⟨h.st.upd i hi hc hp hf,λq hq b hb=>?_,h.bw.trans (hc.below h.bw.size hl)⟩
 obtain⟨j,hj⟩:=List.mem_iff_getElem?.1 hq
 rcases jg hj with⟨_,rfl⟩|⟨_,hj⟩
 · rcases hf b hb with e|e
   · exact hl b e
   · have:=h.bw.size;omega
 · exact h.low q (List.mem_of_getElem? hj) b hb
theorem Sp.add {w0 w w':World}{ps:List Pt}(h:Sp w0 ps w)(hb:bW w w'){p:Pt}(hp:p.P w')(hf:∀b∈p.fp,w.heap.size <=b):Sp w0 (p::ps) w':=
 ⟨h.st.add hb hp hf,λq hq b hb2=>by
   have:=h.bw.size
   rcases List.mem_cons.1 hq with rfl|hq
   · have:=hf b hb2;omega
   · exact h.low q hq b hb2,ab h.bw hb h.bw.size⟩
theorem Sp.nil (w:World):Sp w [] w:=⟨St.nil w,λp hp=>(by cases hp),Below.refl _ _⟩
theorem Sp.sub {w0 w:World}{ps qs:List Pt}(h:Sp w0 ps w)(f:Nat->Nat)(hf:∀i q,qs[i]? =some q->ps[f i]? =some q)(hi:∀i j,i<qs.length->j<qs.length->f i=f j->i=j):Sp w0 qs w:=
 ⟨h.st.sub f hf hi,λq hq b hb=>by
   obtain⟨i,hi⟩:=List.mem_iff_getElem?.1 hq
   exact h.low q (List.mem_of_getElem? (hf i q hi)) b hb,h.bw⟩
theorem Sp.tail {w0 w:World}{p:Pt}{ps:List Pt}(h:Sp w0 (p::ps) w):Sp w0 ps w:=h.sub (· +1) (λi q hq=>by rw[List.getElem?_cons_succ];exact hq) λi j _ _ e=>by omega
theorem Sp.oth {w0 w u:World}{ps:List Pt}(h:Sp w0 ps w)(i:Nat){p:Pt}(hi:ps[i]? =some p)(hu:Chg p.fp w u)(j:Nat){q:Pt}(hj:ps[j]? =some q)(hne:j≠i):q.P u:=
 q.st (h.at j hj) (hu.keep.mono λb hb hb2=>h.st.ap j i q p hj hi hne b hb hb2)
theorem Sp.obw {w0 w u:World}{ps:List Pt}(h:Sp w0 ps w)(i:Nat){p:Pt}(hi:ps[i]? =some p)(hu:Chg p.fp w u):bW w0 u:=h.bw.trans (hu.below h.bw.size (h.low p (List.mem_of_getElem? hi)))
theorem Sp.put {P:Program}{u:TypeId}{bytes:Nat}{z:Value}(tf:TF P u 1 bytes z){w0 w:World}{ps:List Pt}(h:Sp w0 ps w)(j:Nat){k:Nat}{t:TypeId}{vs:List Value}(hj:ps[j]? =some (ptA k t vs)){i:Nat}{v:Value}(hv:v.cells= #[v])(h1:v.oneCell'=true)(hi:i<vs.length):
   ∃wx,(Instr.storeAt u (.pointer (some ⟨k,i,none⟩)) v).run P w=.ok () wx/\Sp w0 (ps.set j (ptA k t (vs.set i v))) wx/\w.grownBy wx (some k):=by
 have hA:ai w k t vs:=h.at j hj
 obtain⟨wx,q,A,g⟩:=hA.store tf (i:=i) (v:=v) (by rw[hv];rfl) (by omega) (by intro c hc;rw[hv]at hc;simp at hc;subst hc;exact h1)
 refine⟨wx,q,h.upd j hj (Chg.grown g List.mem_cons_self) ?_ λb hb=>.inl hb,g⟩
 show ai wx k t (vs.set i v)
 rw[List.set_eq_take_append_cons_drop,if_pos hi]
 rw[hv]at A
 simpa using A
def ptM {α β:Type}[DecidableEq α](ek:α->Value)(ev:β->Value)(k:Nat)(kvs:List (α×β)):Pt where
 fp:=[k]
 P:=λw=>pn ek ev w k kvs
 st:=λh hk=>h.keep (hk.block k h.lt List.mem_cons_self)
 lt:=λh b hb=>by rw[List.mem_singleton]at hb;subst hb;exact h.lt
theorem DQ {α:Type}{T:Ty α}(hfl:AM T){P:Program}{st t ty:TypeId}{bytes:Nat}{z:Value}(hu:P.underlying st=some (.slice t))(tf:TF P t T.k bytes z)(hb0:0<bytes)
   {w w1:World} {a:Option Addr} {n c:Nat} {xs:List α} (ho:Ow T t w NoB a n c xs) {k1:Nat} {vs:List Value} {x:α} (hk:k1=w.heap.size)
   (hw:w1=w.alloc (.cells vs.toArray t)) (hx:T.rep w NoB vs x) {cm:Nat} (hbound:(xs.length+1)*bytes <=140737488355328):
   Chg (bi a).toList w w1/\∃(w2:World) (a':Option Addr) (n' c':Nat),(Builtin.append_ #[st,st] ty #[.slice a n c,.slice (some ⟨k1,0,none⟩) 1 cm]).run P w1=.ok (.slice a' n' c') w2/\Ow T t w2 NoB a' n' c' (xs++[x])/\Chg (bi a).toList w w2/\jI w a a':=by
 have hB1:bW w w1:=hw▸af w _
 have hsrc:Src T w1 NoB (some ⟨k1,0,none⟩) 1 [x]:=Src.new1F hfl hk hw hx
 obtain⟨w4,a4,n4,c4,hr,ho4,hgr,hfr⟩:=cr (ty:=ty) hu tf hb0 (ho.below hB1) (λ_ _ h=>h) (cm:=cm) hsrc (by simpa using hbound)
 have c1:Chg (bi a).toList w w1:=Chg.of hB1
 exact⟨c1,w4,a4,n4,c4,hr,ho4,c1.trans (Chg.row hgr),λg hg=>(hfr g hg).imp id λh=>Nat.le_trans hB1.size h⟩
theorem jI.fp {w:World}{a a':Option Addr}(h:jI w a a'):∀b∈(bi a').toList,b∈(bi a).toList\/w.heap.size <=b:=λb hb=>(h b (cL.1 hb)).imp cL.2 id
structure Hi where
 a:Option Addr
 n:Nat
 c:Nat
 xs:List Int
 deriving DecidableEq
def Hi.v (h:Hi):Value:=.slice h.a h.n h.c
def tHi:Ty Hi:=Ty.enc Hi.v (λ_=>rfl) λ_=>True
theorem tr:AM tHi:=λ_ _ _ _ _ _ h=>h
def hi0:Hi:=⟨none,0,0,[]⟩
structure Rws (ti:TypeId)(w:World)(hs:List Hi):Prop where
 own:∀h∈hs,Ow bY ti w NoB h.a h.n h.c h.xs
 ap:hs.Pairwise λx y=>∀b,bi x.a=some b->bi y.a≠some b
theorem Rws.perm {ti:TypeId}{w:World}{hs gs:List Hi}(h:Rws ti w hs)(hp:hs.Perm gs):Rws ti w gs:=
 ⟨λx hx=>h.own x (hp.symm.subset hx),(hp.pairwise_iff fun{x y} hxy b hb hb2=>hxy b hb2 hb).1 h.ap⟩
def tA (hs:List Hi):List Nat:=hs.flatMap λh=>(bi h.a).toList
theorem kz {hs:List Hi}{b:Nat} :b∈tA hs ↔ ∃h∈hs,bi h.a=some b:=by
 unfold tA
 rw[List.mem_flatMap]
 exact⟨λ⟨h,h1,h2⟩=>⟨h,h1,cL.1 h2⟩,λ⟨h,h1,h2⟩=>⟨h,h1,cL.2 h2⟩⟩
theorem Rws.keep {ti:TypeId}{w w':World}{hs:List Hi}(h:Rws ti w hs)(hk:oF (λb=>b∈tA hs) w w'):Rws ti w' hs:=
 ⟨λx hx=>(ptO bY ti x.a x.n x.c x.xs).st (h.own x hx) (hk.mono λb hb=>kz.2 ⟨x,hx,cL.1 hb⟩),h.ap⟩
def ptR (ti:TypeId)(hs:List Hi):Pt where
 fp:=tA hs
 P:=λw=>Rws ti w hs
 st:=λh hk=>h.keep hk
 lt:=λh b hb=>by
   obtain⟨x,hx,e⟩:=kz.1 hb
   exact(h.own x hx).lt b e
theorem Rws.nil (ti:TypeId)(w:World):Rws ti w []:=⟨λx hx=>(by cases hx),List.Pairwise.nil⟩
theorem Rws.tail {ti:TypeId}{w:World}{h:Hi}{hs:List Hi}(k:Rws ti w (h::hs)):Rws ti w hs:=⟨λx hx=>k.own x (List.mem_cons_of_mem _ hx),(List.pairwise_cons.1 k.ap).2⟩
theorem Rws.upd {ti:TypeId}{w w':World}{h h':Hi}{hs:List Hi}(k:Rws ti w (h::hs))(hc:Chg (bi h.a).toList w w')(ho:Ow bY ti w' NoB h'.a h'.n h'.c h'.xs)(hn:jI w h.a h'.a):Rws ti w' (h'::hs):=by
 obtain⟨k1,k2⟩:=List.pairwise_cons.1 k.ap
 refine⟨λx hx=>?_,List.pairwise_cons.2 ⟨λy hy b hb hb2=>?_,k2⟩⟩
 · rcases List.mem_cons.1 hx with rfl|hx
   · exact ho
   · exact(ptO bY ti x.a x.n x.c x.xs).st (k.own x (List.mem_cons_of_mem _ hx)) (hc.keep.mono λb hb hb2=>k1 x hx b (cL.1 hb2) (cL.1 hb))
 · rcases hn b hb with e|e
   · exact k1 y hy b e hb2
   · have:=(k.own y (List.mem_cons_of_mem _ hy)).lt b hb2;omega
theorem Rws.add {ti:TypeId}{w w':World}{h':Hi}{hs:List Hi}(k:Rws ti w hs)(hb:bW w w')(ho:Ow bY ti w' NoB h'.a h'.n h'.c h'.xs)(hn:br w.heap.size h'.a):Rws ti w' (h'::hs):=by
 refine⟨λx hx=>?_,List.pairwise_cons.2 ⟨λy hy b hb1 hb2=>?_,k.ap⟩⟩
 · rcases List.mem_cons.1 hx with rfl|hx
   · exact ho
   · exact(k.own x hx).below hb
 · have:=(k.own y hy).lt b hb2
   have:=hn b hb1
   omega
theorem d9 {h:Hi}{hs:List Hi}{b:Nat} :b∈tA (h::hs) ↔ bi h.a=some b\/b∈tA hs:=by
 rw[kz,kz]
 constructor
 · rintro⟨x,hx,e⟩
   rcases List.mem_cons.1 hx with rfl|hx
   · exact .inl e
   · exact .inr ⟨x,hx,e⟩
 · rintro(e|⟨x,hx,e⟩)
   · exact⟨h,List.mem_cons_self,e⟩
   · exact⟨x,List.mem_cons_of_mem _ hx,e⟩
theorem lF {hs gs:List Hi}(hp:hs.Perm gs){b:Nat} :b∈tA hs ↔ b∈tA gs:=by
 rw[kz,kz]
 exact⟨λ⟨x,hx,e⟩=>⟨x,hp.subset hx,e⟩,λ⟨x,hx,e⟩=>⟨x,hp.symm.subset hx,e⟩⟩
theorem yH {α:Type}{l:List α}{t:Nat}{x:α}(h:l[t]? =some x):∃rest:List α,l.Perm (x::rest)/\∀y,(l.set t y).Perm (y::rest):=by
 obtain⟨hl,e⟩:=List.getElem?_eq_some_iff.1 h
 refine⟨l.take t++l.drop (t+1),?_,λy=>?_⟩
 · have e1:l=l.take t++x::l.drop (t+1):=by
     conv=>lhs;rw[<- List.take_append_drop t l,List.drop_eq_getElem_cons hl,e]
   conv=>lhs;rw[e1]
   exact List.perm_middle
 · rw[List.set_eq_take_append_cons_drop,if_pos hl]
   exact List.perm_middle
theorem iu {l m:List Hi}(h:∀x,l.count x=m.count x):l.Perm m:=List.perm_iff_count.2 h
theorem HH {zs:List Value}(h:vP zs)(n:Nat)(hz:zs≠[]):∀v∈(Builtin.zeroCells zs.toArray n).toList,v.oneCell'=true:=by
 intro v hv
 unfold Builtin.zeroCells at hv
 rw[Array.toList_map]at hv
 obtain⟨i,_,rfl⟩:=List.mem_map.1 hv
 have hp:0<zs.toArray.size:=by simpa[List.length_pos_iff]using hz
 have hm:=Nat.mod_lt i hp
 rw[getElem!_pos zs.toArray _ hm]
 exact h _ (by simp)
theorem uc {α:Type}(p:α->Bool)(l:List α)(x:α):(l++[x]).filter p=if p x=true then l.filter p++[x]else l.filter p:=by
 rw[List.filter_append,List.filter_cons,List.filter_nil]
 split <;> simp
theorem yQ (a b:Int)(c:Option Addr)(d e:Nat)(f:Option Addr)(g i:Nat){w K}(h:nA w (.cells #[vI a,vI b,.slice c d e,.slice f g i] ae) λj k=>true/\∃l m n,Ld aH (vA j 3) k (.slice l m n)/\∃o p q r,(Instr.makeSlice aj (vI ((m:Nat):Int)) (vI ((m:Nat):Int))).run prog k=.ok (.slice p q r) o/\∃s:Nat->FP [.one (.int .i64)],(∃t,s t (0:Int) o)/\∀t u,aL 8 (∀v,s t u v->ah (decide (u<((q:Nat):Int))) ((bx u ((q:Nat):Int)/\Option.isSome p=true)/\∃x,Sv aq (ak p u 1) (vI u) v x/\∃y:Nat,y<t/\s y (i64.wrap (u+(1:Int))) x) (K (.slice p q r) v))):Cf mc #[.agg #[vI a,vI b,.slice c d e,.slice f g i]] w (Ret K):=ru func188 [(8,[(11,.one (.int .i64))])] h
theorem lB (a:Option Addr)(b c:Nat){w K}(h:∃d,(do eqGuard .eql aj (.tmp 3) (.const (.slice none 0 0)) (.slice a b c) (.slice none 0 0);binOp .eql aj (.slice a b c) (.slice none 0 0):Sem Value).run prog w=.ok (.bool d) w/\ah d (K (.slice none 0 0) w) (nA w (.cells #[] aq) λe f=>∃g i j k,(Builtin.append_ #[aj,aj] aj #[.slice (vA e 0) 0 0,.slice a b c]).run prog f=.ok (.slice i j k) g/\K (.slice i j k) g)):Cf bM #[.slice a b c] w (Ret K):=ru func239 [] h
theorem rW (a b:Int)(c:Option Addr)(d e:Nat)(f:Option Addr)(g i:Nat)(j:Option Addr)(k l:Nat){w K}(h:nA w (.cells #[vI a,vI b,.slice c d e,.slice f g i] ae) λm n=>nA n (.cells #[vI 0,vI 0,.slice none 0 0,.slice none 0 0] ae) λo p=>true/\∃q,Ld aq (vA m 0) p (vI q)/\nA p (.cells #[vI 0,vI 0,.slice none 0 0,.slice none 0 0] ae) λr s=>∃t,Sv ae (vA r 0) (.agg #[vI q,vI 0,.slice none 0 0,.slice none 0 0]) s t/\nA t (.map #[] 0) λu v=>true/\∃x,Ld aq (vA m 1) v (vI x)/\(bx x ((k:Nat):Int)/\Option.isSome j=true)/\∃y,Ld aq (ak j x 1) v (vI y)/\∃z,(Instr.mapUpdate jr (.map (some u)) (vI y) (vI 0)).run prog v=.ok () z/\true/\∃A,Ld aq (vA m 1) z (vI A)/\nA z (.cells #[vI A] aq) λB C=>∃D:Nat->FP [.one .slice],(∃E,D E (vA B 0) 1 1 C)/\∀E F G H,aL 72 (∀I,D E F G H I->true/\∃J L M,Ld aH (vA r 3) I (.slice J L M)/\ah (decide (((L:Nat):Int)<((G:Nat):Int))) (true/\∃N O P,Ld aH (vA r 3) I (.slice N O P)/\(bx ((O:Nat):Int) ((G:Nat):Int)/\Option.isSome F=true)/\∃Q,Ld aq (ak F ((O:Nat):Int) 1) I (vI Q)/\∃R:World->Prop,R (World.drew I)/\true/\∃S T U,(∀V,R V->Ld aH (vA r 3) V (.slice S T U))/\true/\∃V X Y,(∀Z,R Z->Ld aH (vA m 3) Z (.slice V X Y))/\(bx Q ((X:Nat):Int)/\Option.isSome V=true)/\∃Z,(∀aa,R aa->Ld bv (ak V Q 1) aa (.bool Z))/\∀aa ac,aa=(World.drew I).heap.size->ac=(World.drew I).alloc (.cells #[.bool Z] bv)->R ac/\∃ad ag al an,(Builtin.append_ #[aH,aH] aH #[.slice S T U,.slice (vA aa 0) 1 1]).run prog ac=.ok (.slice ag al an) ad/\R ad/\true/\∃ba,Sv aH (vA r 3) (.slice ag al an) ad ba/\true/\∃bb,Ld aq (vA m 0) ba (vI bb)/\∃bc:Nat->FP [.one .slice,.one (.int .i64)],(∃bd,bc bd F G H (0:Int) ba)/\∀bd bj bk bl bn,aL 46 (∀bq,bc bd bj bk bl bn bq->ah (decide (bn<bb)) (true/\∃bu bw bz,Ld aj (vA m 2) bq (.slice bu bw bz)/\true/\∃ca,Ld aq (vA m 0) bq (vI ca)/\(bx (i64.wrap ((i64.wrap (Q*ca))+bn)) ((bw:Nat):Int)/\Option.isSome bu=true)/\∃cc,Ld aq (ak bu (i64.wrap ((i64.wrap (Q*ca))+bn)) 1) bq (vI cc)/\(bx cc ((k:Nat):Int)/\Option.isSome j=true)/\∃ch,Ld aq (ak j cc 1) bq (vI ch)/\∃cl cm,(Instr.lookup jr (.map (some u)) (vI ch) true).run prog bq=.ok (.tuple #[vI cl,.bool cm]) bq/\∃cn:FP [.one .slice,.one (.int .i64)],(ah (!cm) ((bx cc ((k:Nat):Int)/\Option.isSome j=true)/\∃cp,Ld aq (ak j cc 1) bq (vI cp)/\∃cs,(Instr.mapUpdate jr (.map (some u)) (vI cp) (vI ((bk:Nat):Int))).run prog bq=.ok () cs/\nA cs (.cells #[vI cc] aq) λcx da=>∃db dc dd dg,(Builtin.append_ #[aj,aj] aj #[.slice bj bk bl,.slice (vA cx 0) 1 1]).run prog da=.ok (.slice dc dd dg) db/\cn dc dd dg ((bk:Nat):Int) db) (cn bj bk bl cl bq))/\∀cp cs cx da,aL 14 (∀db,cn cp cs cx da db->true/\∃dc dd dg,Ld aj (vA r 2) db (.slice dc dd dg)/\nA db (.cells #[vI da] aq) λds ea=>∃eb ec ef eg,(Builtin.append_ #[aj,aj] aj #[.slice dc dd dg,.slice (vA ds 0) 1 1]).run prog ea=.ok (.slice ec ef eg) eb/\true/\∃eh,Sv aj (vA r 2) (.slice ec ef eg) eb eh/\∃ei:Nat,ei<bd/\bc ei cp cs cx (i64.wrap (bn+(1:Int))) eh)) (∃bu:Nat,bu<E/\D bu bj bk bl bq))) (∃N O P Q R S T U,Ld ae (vA r 0) I (.agg #[vI N,vI O,.slice P Q R,.slice S T U])/\∃V,Sv ae (vA o 0) (.agg #[vI N,vI O,.slice P Q R,.slice S T U]) I V/\∃X Y Z aa ac ad ag al,Rv ae (vA o 0) V (.agg #[vI X,vI Y,.slice Z aa ac,.slice ad ag al])/\K (.agg #[vI X,vI Y,.slice Z aa ac,.slice ad ag al]) V))):Cf d6 #[.agg #[vI a,vI b,.slice c d e,.slice f g i],.slice j k l] w (Ret K):=ru func187 [(10,[(7,.one .slice)]),(4000021,[]),(25,[(7,.one .slice),(50,.one (.int .i64))]),(40,[(7,.one .slice),(11,.one (.int .i64))])] h
theorem vi (a b:Int)(c:Option Addr)(d e:Nat)(f:Option Addr)(g i:Nat){w K}(h:nA w (.cells #[vI a,vI b,.slice c d e,.slice f g i] ae) λj k=>nA k (.cells #[vI 0,vI 0,.slice none 0 0,.slice none 0 0] ae) λl m=>∃n o p q r s t u,Ld ae (vA j 0) m (.agg #[vI n,vI o,.slice p q r,.slice s t u])/\uB iv #[.agg #[vI n,vI o,.slice p q r,.slice s t u]] m λv x=>ah (!v) (∃y,Sv ae (vA l 0) (.agg #[vI 0,vI 0,.slice none 0 0,.slice none 0 0]) x y/\∃z A B C D E F G,Rv ae (vA l 0) y (.agg #[vI z,vI A,.slice B C D,.slice E F G])/\K (.tuple #[.agg #[vI z,vI A,.slice B C D,.slice E F G],vI 151]) y) (∃y:FP [.one .ptr],(∃z:World->Prop,z (World.drew x)/\∃A B C D E F G H,(∀I,z I->Ld ae (vA j 0) I (.agg #[vI A,vI B,.slice C D E,.slice F G H]))/\∃I J L M N O P Q,(∀R,z R->Ld ae (vA j 0) R (.agg #[vI I,vI J,.slice L M N,.slice O P Q]))/\(uL mc #[.agg #[vI I,vI J,.slice L M N,.slice O P Q]] (World.drew x) λR S T U=>z U/\(Cf d6 #[.agg #[vI A,vI B,.slice C D E,.slice F G H],.slice R S T] U λV X=>∃Y Z aa ac ad ag al an,V=.returned (.agg #[vI Y,vI Z,.slice aa ac ad,.slice ag al an])/\z X/\nA X (.cells #[vI 0,vI 0,.slice none 0 0,.slice none 0 0] ae) λba bb=>z bb/\∃bc,Sv ae (vA ba 0) (.agg #[vI Y,vI Z,.slice aa ac ad,.slice ag al an]) bb bc/\y (vA ba 0) bc)/\nA U (.cells #[vI 0,vI 0,.slice none 0 0,.slice none 0 0] ae) λV X=>z X/\Cf d6 #[.agg #[vI A,vI B,.slice C D E,.slice F G H],.slice R S T] X λY Z=>∃aa ac ad ag al an ba bb,Y=.returned (.agg #[vI aa,vI ac,.slice ad ag al,.slice an ba bb])/\z Z/\∃bc,Sv ae (vA V 0) (.agg #[vI aa,vI ac,.slice ad ag al,.slice an ba bb]) Z bc/\y (vA V 0) bc)/\∀R S,R=(World.drew x).heap.size->S=(World.drew x).alloc (.cells #[vI 0,vI 0,.slice none 0 0,.slice none 0 0] ae)->z S/\uL mc #[.agg #[vI I,vI J,.slice L M N,.slice O P Q]] S λT U V X=>z X/\Cf d6 #[.agg #[vI A,vI B,.slice C D E,.slice F G H],.slice T U V] X λY Z=>∃aa ac ad ag al an ba bb,Y=.returned (.agg #[vI aa,vI ac,.slice ad ag al,.slice an ba bb])/\z Z/\∃bc,Sv ae (vA R 0) (.agg #[vI aa,vI ac,.slice ad ag al,.slice an ba bb]) Z bc/\y (vA R 0) bc)/\∀z,aL 4 (∀A,y z A->∃B:World->Prop,B (World.drew A)/\∃C D E F G H I J,(∀L,B L->Ld ae z L (.agg #[vI C,vI D,.slice E F G,.slice H I J]))/\∃L M N O P Q R S,(∀T,B T->Ld ae z T (.agg #[vI L,vI M,.slice N O P,.slice Q R S]))/\uL jW #[.agg #[vI L,vI M,.slice N O P,.slice Q R S]] (World.drew A) λT U V X=>B X/\Cf d6 #[.agg #[vI C,vI D,.slice E F G,.slice H I J],.slice T U V] X λY Z=>∃aa ac ad ag al an ba bb,Y=.returned (.agg #[vI aa,vI ac,.slice ad ag al,.slice an ba bb])/\B Z/\∃bc,Sv ae (vA l 0) (.agg #[vI aa,vI ac,.slice ad ag al,.slice an ba bb]) Z bc/\∃bd bj bk bl bn bq bu bw,Rv ae (vA l 0) bc (.agg #[vI bd,vI bj,.slice bk bl bn,.slice bq bu bw])/\K (.tuple #[.agg #[vI bd,vI bj,.slice bk bl bn,.slice bq bu bw],vI 0]) bc))):Cf ma #[.agg #[vI a,vI b,.slice c d e,.slice f g i]] w (Ret K):=ru func142 [(10,[(4,.one .ptr)]),(4000011,[]),(4000013,[])] h
theorem ve (a b:Int)(c:Option Addr)(d e:Nat)(f:Option Addr)(g i:Nat)(j k:Int)(l:Option Addr)(m n:Nat)(o:Option Addr)(p q:Nat){w K}(h:nA w (.cells #[vI a,vI b,.slice c d e,.slice f g i] ae) λr s=>nA s (.cells #[vI j,vI k,.slice l m n,.slice o p q] ae) λt u=>nA u (.cells #[vI 0,vI 0,.slice none 0 0,.slice none 0 0] ae) λv x=>∃y z A B C D E F,Ld ae (vA r 0) x (.agg #[vI y,vI z,.slice A B C,.slice D E F])/\∃G H I J L M N O,Ld ae (vA t 0) x (.agg #[vI G,vI H,.slice I J L,.slice M N O])/\Cf cv #[.agg #[vI y,vI z,.slice A B C,.slice D E F],.agg #[vI G,vI H,.slice I J L,.slice M N O]] x λP Q=>∃R S T U V X Y Z aa,P=rT #[.agg #[vI R,vI S,.slice T U V,.slice X Y Z],vI aa]/\nA Q (.cells #[vI 0,vI 0,.slice none 0 0,.slice none 0 0] ae) λac ad=>∃ag,Sv ae (vA ac 0) (.agg #[vI R,vI S,.slice T U V,.slice X Y Z]) ad ag/\ah (aa !=(0:Int)) (∃al an ba bb bc bd bj bk,Ld ae (vA ac 0) ag (.agg #[vI al,vI an,.slice ba bb bc,.slice bd bj bk])/\∃bl,Sv ae (vA v 0) (.agg #[vI al,vI an,.slice ba bb bc,.slice bd bj bk]) ag bl/\∃bn bq bu bw bx bz ca cc,Rv ae (vA v 0) bl (.agg #[vI bn,vI bq,.slice bu bw bx,.slice bz ca cc])/\K (.tuple #[.agg #[vI bn,vI bq,.slice bu bw bx,.slice bz ca cc],vI aa]) bl) (∃al an ba bb bc bd bj bk,Ld ae (vA ac 0) ag (.agg #[vI al,vI an,.slice ba bb bc,.slice bd bj bk])/\Cf ma #[.agg #[vI al,vI an,.slice ba bb bc,.slice bd bj bk]] ag λbl bn=>∃bq bu bw bx bz ca cc ch cl,bl=rT #[.agg #[vI bq,vI bu,.slice bw bx bz,.slice ca cc ch],vI cl]/\∃cm,Sv ae (vA v 0) (.agg #[vI bq,vI bu,.slice bw bx bz,.slice ca cc ch]) bn cm/\∃cn cp cs cx da db dc dd,Rv ae (vA v 0) cm (.agg #[vI cn,vI cp,.slice cs cx da,.slice db dc dd])/\K (.tuple #[.agg #[vI cn,vI cp,.slice cs cx da,.slice db dc dd],vI cl]) cm)):Cf jw #[.agg #[vI a,vI b,.slice c d e,.slice f g i],.agg #[vI j,vI k,.slice l m n,.slice o p q]] w (Ret K):=ru func85 [] h
theorem vd (a b:Value){w K}(h:nA w (.cells (Value.cells a) ao) λc d=>nA d (.cells (Value.cells b) ao) λe f=>nA f (.cells dx ao) λg i=>true/\∃j k l m n o p q,Ld ae (vA c 0) i (.agg #[vI j,vI k,.slice l m n,.slice o p q])/\true/\∃r s t u v x y z,Ld ae (vA e 0) i (.agg #[vI r,vI s,.slice t u v,.slice x y z])/\Cf jw #[.agg #[vI j,vI k,.slice l m n,.slice o p q],.agg #[vI r,vI s,.slice t u v,.slice x y z]] i λA B=>∃C D E F G H I J L,A=rT #[.agg #[vI C,vI D,.slice E F G,.slice H I J],vI L]/\nA B (.cells #[vI 0,vI 0,.slice none 0 0,.slice none 0 0] ae) λM N=>∃O,Sv ae (vA M 0) (.agg #[vI C,vI D,.slice E F G,.slice H I J]) N O/\true/\∃P Q R S T U V X,Ld ae (vA c 4) O (.agg #[vI P,vI Q,.slice R S T,.slice U V X])/\true/\∃Y Z aa ac ad ag al an,Ld ae (vA e 4) O (.agg #[vI Y,vI Z,.slice aa ac ad,.slice ag al an])/\Cf jw #[.agg #[vI P,vI Q,.slice R S T,.slice U V X],.agg #[vI Y,vI Z,.slice aa ac ad,.slice ag al an]] O λba bb=>∃bc bd bj bk bl bn bq bu bw,ba=rT #[.agg #[vI bc,vI bd,.slice bj bk bl,.slice bn bq bu],vI bw]/\nA bb (.cells #[vI 0,vI 0,.slice none 0 0,.slice none 0 0] ae) λbz ca=>∃cc,Sv ae (vA bz 0) (.agg #[vI bc,vI bd,.slice bj bk bl,.slice bn bq bu]) ca cc/\∃ch cl cm cn cp cs cx da,Ld ae (vA M 0) cc (.agg #[vI ch,vI cl,.slice cm cn cp,.slice cs cx da])/\∃db dc dd dg ds ea eb ec,Ld ae (vA bz 0) cc (.agg #[vI db,vI dc,.slice dd dg ds,.slice ea eb ec])/\nA cc (.cells dx ao) λef eg=>∃eh,Sv ao (vA ef 0) (.agg #[vI ch,vI cl,.slice cm cn cp,.slice cs cx da,vI db,vI dc,.slice dd dg ds,.slice ea eb ec,.bool false,.bool false,.bool false,.bool false,.bool false]) eg eh/\∃ei:Nat->FP [.one (.int .i64)],(∃ej,ei ej (0:Int) eh)/\∀ej ek,aL 17 (∀el,ei ej ek el->ah (decide (ek<(2:Int))) (true/\(bx ek ((2:Nat):Int)/\true)/\∃em,Ld bv (ak (vA c 8) ek 1) el (.bool em)/\ah em (true/\(bx ek ((2:Nat):Int)/\true)/\∃en,Ld bv (ak (vA e 8) ek 1) el (.bool en)/\true/\(bx ek ((2:Nat):Int)/\true)/\∃eo,Sv bv (ak (vA ef 8) ek 1) (.bool en) el eo/\∃ep:Nat,ep<ej/\ei ep (i64.wrap (ek+(1:Int))) eo) (true/\(bx ek ((2:Nat):Int)/\true)/\∃en,Sv bv (ak (vA ef 8) ek 1) (.bool false) el en/\∃eo:Nat,eo<ej/\ei eo (i64.wrap (ek+(1:Int))) en)) (∃em:Nat->FP [.one (.int .i64)],(∃en,em en (0:Int) el)/\∀en eo,aL 17 (∀ep,em en eo ep->ah (decide (eo<(3:Int))) (true/\(bx eo ((3:Nat):Int)/\true)/\∃er,Ld bv (ak (vA c 10) eo 1) ep (.bool er)/\ah er (true/\(bx eo ((3:Nat):Int)/\true)/\∃es,Ld bv (ak (vA e 10) eo 1) ep (.bool es)/\true/\(bx eo ((3:Nat):Int)/\true)/\∃et,Sv bv (ak (vA ef 10) eo 1) (.bool es) ep et/\∃ev:Nat,ev<en/\em ev (i64.wrap (eo+(1:Int))) et) (true/\(bx eo ((3:Nat):Int)/\true)/\∃es,Sv bv (ak (vA ef 10) eo 1) (.bool false) ep es/\∃et:Nat,et<en/\em et (i64.wrap (eo+(1:Int))) es)) (∃er,Ld ao (vA ef 0) ep er/\nA ep (.cells #[vI L,vI bw] dI) λes et=>Cf fL #[er,.slice (vA es 0) 2 2] et λev ew=>∃ex ez,ev=rT #[ex,vI ez]/\∃fa,Sv ao (vA g 0) ex ew fa/\∃fb,Rv ao (vA g 0) fa fb/\K (.tuple #[fb,vI ez]) fa))))):Cf lZ #[a,b] w (Ret K):=ru func40 [(12,[(32,.one (.int .i64))]),(29,[(49,.one (.int .i64))])] h
theorem nB (a:Int)(b c:Option Addr){w K}(h:∃d,(∀e,bW w e->Ld aB b e (.pointer d))/\(Option.isSome d=true)/\(Option.isSome d=true)/\∃e f g,(∀i,bW w i->Ld aj (Option.map (λj=>j.add 5) d) i (.slice e f g))/\(bx a ((f:Nat):Int)/\Option.isSome e=true)/\∃i,(∀j,bW w j->Ld aq (ak e a 1) j (vI i))/\∃j,(∀k,bW w k->Ld aq c k (vI j))/\∀k,bW w k->K (.bool (i==j)) k):Cf aR #[vI a,.pointer b,.pointer c] w (Ret K):=ru func241 [] h
theorem dX (a:Option Addr)(b c:Nat)(d e:Option Addr){w K}(h:∃f:Nat->FP [.one (.int .i64)],(∃g,f g (0:Int) w)/\∀g i,aL 12 (∀j,f g i j->ah (decide (i<((b:Nat):Int))) ((bx i ((b:Nat):Int)/\Option.isSome a=true)/\∃k,Ld aq (ak a i 1) j (vI k)/\uB aR #[vI k,.pointer d,.pointer e] j λl m=>ah l (K (vI i) m) (∃n:Nat,n<g/\f n (i64.wrap (i+(1:Int))) m)) (K (vI (-1)) j))):Cf aP #[.slice a b c,.func (.func aR) #[] #[.pointer d,.pointer e]] w (Ret K):=ru func202 [(6,[(8,.one (.int .i64))])] h
theorem dR (a:Option Addr)(b c:Nat)(d e:Option Addr){w K}(h:uI aP #[.slice a b c,.func (.func aR) #[] #[.pointer d,.pointer e]] w λf g=>ah (f==(-1:Int)) (K (.slice a b c) g) (∃i:Nat->FP [.one (.int .i64),.one (.int .i64)],(∃j,i j f (i64.wrap (f+(1:Int))) g)/\∀j k l,aL 21 (∀m,i j k l m->ah (decide (l<((b:Nat):Int))) ((bx l ((b:Nat):Int)/\Option.isSome a=true)/\∃n,Ld aq (ak a l 1) m (vI n)/\uB aR #[vI n,.pointer d,.pointer e] m λo p=>ah (!o) ((bx k ((b:Nat):Int)/\Option.isSome a=true)/\∃q,Sv aq (ak a k 1) (vI n) p q/\∃r:Nat,r<j/\i r (i64.wrap (k+(1:Int))) (i64.wrap (l+(1:Int))) q) (∃q:Nat,q<j/\i q k (i64.wrap (l+(1:Int))) p)) (bd k ((b:Nat):Int)/\∃n,(Builtin.clear_ #[aj] zi #[.slice (kU a c (Int.toNat k) 1) (b-(Int.toNat k)) (c-(Int.toNat k))]).run prog m=.ok (.tuple #[]) n/\bd k ((c:Nat):Int)/\K (.slice a (Int.toNat k) c) n)))):Cf df #[.slice a b c,.func (.func aR) #[] #[.pointer d,.pointer e]] w (Ret K):=ru func240 [(16,[(5,.one (.int .i64)),(6,.one (.int .i64))])] h
theorem qJ (a b:Option Addr)(c d:Nat)(e:Int){w K}(h:nA w (.cells #[.pointer a] aB) λf g=>nA g (.map #[] 0) λi j=>∃k:Nat->FP [.one (.int .i64)],(∃l,k l (0:Int) j)/\∀l m,aL 43 (∀n,k l m n->ah (decide (m<((c:Nat):Int))) ((bx m ((c:Nat):Int)/\Option.isSome b=true)/\∃o,Ld aq (ak b m 1) n (vI o)/\∃p,(∀q,bW n q->Ld aB (vA f 0) q (.pointer p))/\(Option.isSome p=true)/\(Option.isSome p=true)/\∃q r s,(∀t,bW n t->Ld ay (Option.map (λu=>u.add 4) p) t (.slice q r s))/\∃t,(∀u,bW n u->Ld aB (vA f 0) u (.pointer t))/\(Option.isSome t=true)/\(Option.isSome t=true)/\(isSome (Option.map (λu=>u.add 0) t))/\∃u,(∀v,bW n v->Ld aq (Option.map (λx=>x.add 0) (Option.map (λx=>x.add 0) t)) v (vI u))/\(bx (i64.wrap ((i64.wrap (o*u))+e)) ((r:Nat):Int)/\Option.isSome q=true)/\∃v x y,(∀z,bW n z->Ld aj (ak q (i64.wrap ((i64.wrap (o*u))+e)) 1) z (.slice v x y))/\∀z,bW n z->∃A:Nat->FP [.one (.int .i64)],(∃B,A B (0:Int) z)/\∀B C,aL 21 (∀D,A B C D->ah (decide (C<((x:Nat):Int))) ((bx C ((x:Nat):Int)/\Option.isSome v=true)/\∃E,Ld aq (ak v C 1) D (vI E)/\∃F,Ld aB (vA f 0) D (.pointer F)/\(Option.isSome F=true)/\(Option.isSome F=true)/\∃G H I,Ld aj (Option.map (λJ=>J.add 5) F) D (.slice G H I)/\(bx E ((H:Nat):Int)/\Option.isSome G=true)/\∃J,Ld aq (ak G E 1) D (vI J)/\∃L M N,(Instr.lookup gt (.map (some i)) (vI J) false).run prog D=.ok (.slice L M N) D/\nA D (.cells #[vI E] aq) λO P=>∃Q R S T,(Builtin.append_ #[aj,aj] aj #[.slice L M N,.slice (vA O 0) 1 1]).run prog P=.ok (.slice R S T) Q/\∃U,(Instr.mapUpdate gt (.map (some i)) (vI J) (.slice R S T)).run prog Q=.ok () U/\∃V:Nat,V<B/\A V (i64.wrap (C+(1:Int))) U) (∃E:Nat,E<l/\k E (i64.wrap (m+(1:Int))) D))) (∃o p,(Instr.range gt (.map (some i))).run prog n=.ok (.pointer p) o/\∃q:Nat->FP [],(∃r,q r o)/\∀r,aL 83 (∀s,q r s->((∃t,(Instr.next (.pointer p) false zi).run prog s=.ok (.tuple #[.bool false]) t/\K (.tuple #[]) t)\/(∃t u v,(Instr.next (.pointer p) false zi).run prog s=.ok (.tuple #[.bool true,u,v]) t/\∃x:FP [.one (.int .i64),.one .slice],(∃y z,(Instr.entry (.pointer p)).run prog t=.ok (.tuple #[y,z]) t/\ap [.one (.int .i64),.one .slice] x [y,z] t)/\∀y z A B,aL 3 (∀C,x y z A B C->∃D,Ld aB (vA f 0) C (.pointer D)/\(Option.isSome D=true)/\(Option.isSome D=true)/\∃E F G,Ld ay (Option.map (λH=>H.add 6) D) C (.slice E F G)/\(bx y ((F:Nat):Int)/\Option.isSome E=true)/\∃H I J,Ld aj (ak E y 1) C (.slice H I J)/\ah (((A:Nat):Int)==((I:Nat):Int)) (∃L:Nat,L<r/\q L C) (∃L,Ld aB (vA f 0) C (.pointer L)/\(Option.isSome L=true)/\(Option.isSome L=true)/\∃M N O,Ld ay (Option.map (λP=>P.add 6) L) C (.slice M N O)/\nA C (.cells #[vI 0] aq) λP Q=>∃R,Sv aq (vA P 0) (vI ((N:Nat):Int)) Q R/\∃S:Nat->FP [.one (.int .i64)],(∃T,S T (0:Int) R)/\∀T U,aL 12 (∀V,S T U V->ah (decide (U<((A:Nat):Int))) ((bx U ((A:Nat):Int)/\Option.isSome z=true)/\∃X,Ld aq (ak z U 1) V (vI X)/\∃Y:World->Prop,Y (World.drew V)/\∃Z,(∀aa,Y aa->Ld aB (vA f 0) aa (.pointer Z))/\(Option.isSome Z=true)/\(Option.isSome Z=true)/\∃aa ac ad,(∀ag,Y ag->Ld aj (Option.map (λal=>al.add 5) Z) ag (.slice aa ac ad))/\∃ag,(∀al,Y al->Ld aq (vA P 0) al (vI ag))/\(bx X ((ac:Nat):Int)/\Option.isSome aa=true)/\∃al,Sv aq (ak aa X 1) (vI ag) (World.drew V) al/\∃an:Nat,an<T/\S an (i64.wrap (U+(1:Int))) al) (∃X:World->Prop,X (World.drew V)/\∃Y,(∀Z,X Z->Ld aB (vA f 0) Z (.pointer Y))/\(Option.isSome Y=true)/\(Option.isSome Y=true)/\∃Z aa ac,(∀ad,X ad->Ld ay (Option.map (λag=>ag.add 6) Y) ad (.slice Z aa ac))/\∃ad,(∀ag,X ag->Ld aB (vA f 0) ag (.pointer ad))/\(Option.isSome ad=true)/\(Option.isSome ad=true)/\∃ag al an,(∀ba,X ba->Ld ay (Option.map (λbb=>bb.add 6) ad) ba (.slice ag al an))/\(bx y ((al:Nat):Int)/\Option.isSome ag=true)/\∃ba bb bc,(∀bd,X bd->Ld aj (ak ag y 1) bd (.slice ba bb bc))/\uL df #[.slice ba bb bc,.func (.func aR) #[] #[.pointer (vA f 0),.pointer (vA P 0)]] (World.drew V) λbd bj bk bl=>X bl/\(bx y ((aa:Nat):Int)/\Option.isSome Z=true)/\∃bn,Sv aj (ak Z y 1) (.slice bd bj bk) bl bn/\∃bq:World->Prop,bq (World.drew bn)/\∃bu,(∀bw,bq bw->Ld aB (vA f 0) bw (.pointer bu))/\∃bw,(∀bz,bq bz->Ld aB (vA f 0) bz (.pointer bw))/\(Option.isSome bw=true)/\(Option.isSome bw=true)/\∃bz ca cc,(∀ch,bq ch->Ld ay (Option.map (λcl=>cl.add 6) bw) ch (.slice bz ca cc))/\∀ch cl,ch=(World.drew bn).heap.size->cl=(World.drew bn).alloc (.cells #[.slice z A B] aj)->bq cl/\∃cm cn cp cs,(Builtin.append_ #[ay,ay] ay #[.slice bz ca cc,.slice (vA ch 0) 1 1]).run prog cl=.ok (.slice cn cp cs) cm/\bq cm/\(Option.isSome bu=true)/\(Option.isSome bu=true)/\∃cx,Sv ay (Option.map (λda=>da.add 6) bu) (.slice cn cp cs) cm cx/\∃da:World->Prop,da (World.drew cx)/\∃db,(∀dc,da dc->Ld aB (vA f 0) dc (.pointer db))/\∃dc,(∀dd,da dd->Ld aB (vA f 0) dd (.pointer dc))/\(Option.isSome dc=true)/\(Option.isSome dc=true)/\∃dd dg ds,(∀ea,da ea->Ld ay (Option.map (λeb=>eb.add 7) dc) ea (.slice dd dg ds))/\∃ea,(∀eb,da eb->Ld aB (vA f 0) eb (.pointer ea))/\(Option.isSome ea=true)/\(Option.isSome ea=true)/\∃eb ec ef,(∀eg,da eg->Ld ay (Option.map (λeh=>eh.add 6) ea) eg (.slice eb ec ef))/\(bx y ((ec:Nat):Int)/\Option.isSome eb=true)/\∃eg eh ei,(∀ej,da ej->Ld aj (ak eb y 1) ej (.slice eg eh ei))/\uL bM #[.slice z A B] (World.drew cx) λej ek el em=>da em/\uL bM #[.slice eg eh ei] em λen eo ep er=>da er/\nA er (.cells #[.slice ej ek el,.slice en eo ep] aj) λes et=>da et/\∃ev ew ex ez,(Builtin.append_ #[ay,ay] ay #[.slice dd dg ds,.slice (vA es 0) 2 2]).run prog et=.ok (.slice ew ex ez) ev/\da ev/\(Option.isSome db=true)/\(Option.isSome db=true)/\∃fa,Sv ay (Option.map (λfb=>fb.add 7) db) (.slice ew ex ez) ev fa/\∃fb:Nat,fb<r/\q fb fa)))))))))):Cf je #[.pointer a,.slice b c d,vI e] w (Ret K):=ru func223 [(8,[(20,.one (.int .i64))]),(22,[(40,.one (.int .i64))]),(41,[]),(49,[(12,.one (.int .i64)),(13,.one .slice)]),(63,[(86,.one (.int .i64))]),(4000074,[]),(4000077,[]),(4000079,[]),(4000080,[])] h
theorem qI (a b:Int)(c:Option Addr)(d e:Nat)(f:Option Addr)(g i:Nat){w K}(h:nA w (.cells #[vI a,vI b,.slice c d e,.slice f g i] ae) λj k=>true/\∃l m n,Ld aH (vA j 3) k (.slice l m n)/\∃o:FP [.one .ptr],(∃p:World->Prop,p (World.drew k)/\∃q r s t u v x y,(∀z,p z->Ld ae (vA j 0) z (.agg #[vI q,vI r,.slice s t u,.slice v x y]))/\true/\∃z,(∀A,p A->Ld aq (vA j 0) A (vI z))/\(∃A B C D,(Instr.makeSlice ay (vI (i64.wrap (((m:Nat):Int)*z))) (vI (i64.wrap (((m:Nat):Int)*z)))).run prog (World.drew k)=.ok (.slice B C D) A/\p A/\(∃E F G H,(Instr.makeSlice aj (vI ((m:Nat):Int)) (vI ((m:Nat):Int))).run prog A=.ok (.slice F G H) E/\p E/\∃I J L M,(Instr.makeSlice ay (vI 2) (vI 2)).run prog E=.ok (.slice J L M) I/\p I/\nA I (.cells #[vI q,vI r,.slice s t u,.slice v x y,.slice B C D,.slice F G H,.slice J L M,.slice none 0 0] bg) λN O=>p O/\o (vA N 0) O)/\∃E F G H,(Instr.makeSlice ay (vI 2) (vI 2)).run prog A=.ok (.slice F G H) E/\p E/\∃I J L M,(Instr.makeSlice aj (vI ((m:Nat):Int)) (vI ((m:Nat):Int))).run prog E=.ok (.slice J L M) I/\p I/\nA I (.cells #[vI q,vI r,.slice s t u,.slice v x y,.slice B C D,.slice J L M,.slice F G H,.slice none 0 0] bg) λN O=>p O/\o (vA N 0) O)/\(∃A B C D,(Instr.makeSlice aj (vI ((m:Nat):Int)) (vI ((m:Nat):Int))).run prog (World.drew k)=.ok (.slice B C D) A/\p A/\(∃E F G H,(Instr.makeSlice ay (vI (i64.wrap (((m:Nat):Int)*z))) (vI (i64.wrap (((m:Nat):Int)*z)))).run prog A=.ok (.slice F G H) E/\p E/\∃I J L M,(Instr.makeSlice ay (vI 2) (vI 2)).run prog E=.ok (.slice J L M) I/\p I/\nA I (.cells #[vI q,vI r,.slice s t u,.slice v x y,.slice F G H,.slice B C D,.slice J L M,.slice none 0 0] bg) λN O=>p O/\o (vA N 0) O)/\∃E F G H,(Instr.makeSlice ay (vI 2) (vI 2)).run prog A=.ok (.slice F G H) E/\p E/\∃I J L M,(Instr.makeSlice ay (vI (i64.wrap (((m:Nat):Int)*z))) (vI (i64.wrap (((m:Nat):Int)*z)))).run prog E=.ok (.slice J L M) I/\p I/\nA I (.cells #[vI q,vI r,.slice s t u,.slice v x y,.slice J L M,.slice B C D,.slice F G H,.slice none 0 0] bg) λN O=>p O/\o (vA N 0) O)/\∃A B C D,(Instr.makeSlice ay (vI 2) (vI 2)).run prog (World.drew k)=.ok (.slice B C D) A/\p A/\(∃E F G H,(Instr.makeSlice ay (vI (i64.wrap (((m:Nat):Int)*z))) (vI (i64.wrap (((m:Nat):Int)*z)))).run prog A=.ok (.slice F G H) E/\p E/\∃I J L M,(Instr.makeSlice aj (vI ((m:Nat):Int)) (vI ((m:Nat):Int))).run prog E=.ok (.slice J L M) I/\p I/\nA I (.cells #[vI q,vI r,.slice s t u,.slice v x y,.slice F G H,.slice J L M,.slice B C D,.slice none 0 0] bg) λN O=>p O/\o (vA N 0) O)/\∃E F G H,(Instr.makeSlice aj (vI ((m:Nat):Int)) (vI ((m:Nat):Int))).run prog A=.ok (.slice F G H) E/\p E/\∃I J L M,(Instr.makeSlice ay (vI (i64.wrap (((m:Nat):Int)*z))) (vI (i64.wrap (((m:Nat):Int)*z)))).run prog E=.ok (.slice J L M) I/\p I/\nA I (.cells #[vI q,vI r,.slice s t u,.slice v x y,.slice J L M,.slice F G H,.slice B C D,.slice none 0 0] bg) λN O=>p O/\o (vA N 0) O)/\∀p,aL 11 (∀q,o p q->∃r:Nat->FP [.one (.int .i64)],(∃s,r s (0:Int) q)/\∀s t,aL 82 (∀u,r s t u->ah (decide (t<((m:Nat):Int))) (true/\∃v,Ld aq (vA j 0) u (vI v)/\∃x:Nat->FP [.one (.int .i64)],(∃y,x y (0:Int) u)/\∀y z,aL 36 (∀A,x y z A->ah (decide (z<v)) (true/\∃B C D,(∀E,bW A E->Ld aj (vA j 2) E (.slice B C D))/\true/\∃E,(∀F,bW A F->Ld aq (vA j 0) F (vI E))/\(bx (i64.wrap ((i64.wrap (t*E))+z)) ((C:Nat):Int)/\Option.isSome B=true)/\∃F,(∀G,bW A G->Ld aq (ak B (i64.wrap ((i64.wrap (t*E))+z)) 1) G (vI F))/\true/\∃G,(∀H,bW A H->Ld aq (vA j 0) H (vI G))/\∀H,bW A H->∃I:World->Prop,I (World.drew H)/\(Option.isSome p=true)/\(Option.isSome p=true)/\∃J L M,(∀N,I N->Ld ay (Option.map (λO=>O.add 4) p) N (.slice J L M))/\(Option.isSome p=true)/\(Option.isSome p=true)/\∃N O P,(∀Q,I Q->Ld ay (Option.map (λR=>R.add 4) p) Q (.slice N O P))/\(bx (i64.wrap ((i64.wrap (F*G))+z)) ((O:Nat):Int)/\Option.isSome N=true)/\∃Q R S,(∀T,I T->Ld aj (ak N (i64.wrap ((i64.wrap (F*G))+z)) 1) T (.slice Q R S))/\∀T U,T=(World.drew H).heap.size->U=(World.drew H).alloc (.cells #[vI t] aq)->I U/\∃V X Y Z,(Builtin.append_ #[aj,aj] aj #[.slice Q R S,.slice (vA T 0) 1 1]).run prog U=.ok (.slice X Y Z) V/\I V/\(bx (i64.wrap ((i64.wrap (F*G))+z)) ((L:Nat):Int)/\Option.isSome J=true)/\∃aa,Sv aj (ak J (i64.wrap ((i64.wrap (F*G))+z)) 1) (.slice X Y Z) V aa/\∃ac:Nat,ac<y/\x ac (i64.wrap (z+(1:Int))) aa) (∃B:FP [],(true/\∃C D E,Ld aH (vA j 3) A (.slice C D E)/\(bx t ((D:Nat):Int)/\Option.isSome C=true)/\∃F,Ld bv (ak C t 1) A (.bool F)/\ah F ((Option.isSome p=true)/\(Option.isSome p=true)/\∃G H I,Ld aj (Option.map (λJ=>J.add 5) p) A (.slice G H I)/\(bx t ((H:Nat):Int)/\Option.isSome G=true)/\∃J,Sv aq (ak G t 1) (vI 1) A J/\B J) (B A))/\aL 11 (∀C,B C->∃D:World->Prop,D (World.drew C)/\(Option.isSome p=true)/\(Option.isSome p=true)/\∃E F G,(∀H,D H->Ld ay (Option.map (λI=>I.add 6) p) H (.slice E F G))/\(Option.isSome p=true)/\(Option.isSome p=true)/\∃H I J,(∀L,D L->Ld aj (Option.map (λM=>M.add 5) p) L (.slice H I J))/\(bx t ((I:Nat):Int)/\Option.isSome H=true)/\∃L,(∀M,D M->Ld aq (ak H t 1) M (vI L))/\(Option.isSome p=true)/\(Option.isSome p=true)/\∃M N O,(∀P,D P->Ld ay (Option.map (λQ=>Q.add 6) p) P (.slice M N O))/\(Option.isSome p=true)/\(Option.isSome p=true)/\∃P Q R,(∀S,D S->Ld aj (Option.map (λT=>T.add 5) p) S (.slice P Q R))/\(bx t ((Q:Nat):Int)/\Option.isSome P=true)/\∃S,(∀T,D T->Ld aq (ak P t 1) T (vI S))/\(bx S ((N:Nat):Int)/\Option.isSome M=true)/\∃T U V,(∀X,D X->Ld aj (ak M S 1) X (.slice T U V))/\∀X Y,X=(World.drew C).heap.size->Y=(World.drew C).alloc (.cells #[vI t] aq)->D Y/\∃Z aa ac ad,(Builtin.append_ #[aj,aj] aj #[.slice T U V,.slice (vA X 0) 1 1]).run prog Y=.ok (.slice aa ac ad) Z/\D Z/\(bx L ((F:Nat):Int)/\Option.isSome E=true)/\∃ag,Sv aj (ak E L 1) (.slice aa ac ad) Z ag/\∃al:Nat,al<s/\r al (i64.wrap (t+(1:Int))) ag)))) (∃v:World->Prop,v (World.drew u)/\(Option.isSome p=true)/\(Option.isSome p=true)/\∃x y z,(∀A,v A->Ld ay (Option.map (λB=>B.add 6) p) A (.slice x y z))/\(bx (0:Int) ((y:Nat):Int)/\Option.isSome x=true)/\∃A B C,(∀D,v D->Ld aj (ak x (0:Int) 1) D (.slice A B C))/\(Option.isSome p=true)/\(Option.isSome p=true)/\∃D E F,(∀G,v G->Ld ay (Option.map (λH=>H.add 6) p) G (.slice D E F))/\(bx (1:Int) ((E:Nat):Int)/\Option.isSome D=true)/\∃G H I,(∀J,v J->Ld aj (ak D (1:Int) 1) J (.slice G H I))/\uL bM #[.slice A B C] (World.drew u) λJ L M N=>v N/\uL bM #[.slice G H I] N λO P Q R=>v R/\nA R (.cells #[.slice J L M,.slice O P Q] aj) λS T=>v T/\(Option.isSome p=true)/\(Option.isSome p=true)/\∃U,Sv ay (Option.map (λV=>V.add 7) p) (.slice (vA S 0) 2 2) T U/\K (.pointer p) U)))):Cf jd #[.agg #[vI a,vI b,.slice c d e,.slice f g i]] w (Ret K):=ru func222 [(4,[(4,.one .ptr)]),(4000005,[]),(10,[(23,.one (.int .i64))]),(25,[(28,.one (.int .i64))]),(4000038,[]),(40,[]),(4000046,[]),(4000049,[])] h
theorem rV (a b:Int)(c:Option Addr)(d e:Nat)(f:Option Addr)(g i:Nat){w K}(h:nA w (.cells #[vI a,vI b,.slice c d e,.slice f g i] ae) λj k=>∃l m n o p q r s,Ld ae (vA j 0) k (.agg #[vI l,vI m,.slice n o p,.slice q r s])/\uP jd #[.agg #[vI l,vI m,.slice n o p,.slice q r s]] k λt u=>∃v:Nat->FP [],(∃x,v x u)/\∀x,aL 44 (∀y,v x y->(Option.isSome t=true)/\(Option.isSome t=true)/\∃z A B,Ld ay (Option.map (λC=>C.add 7) t) y (.slice z A B)/\ah (decide (((A:Nat):Int)>(0:Int))) ((Option.isSome t=true)/\(Option.isSome t=true)/\∃C D E,(∀F,bW y F->Ld ay (Option.map (λG=>G.add 7) t) F (.slice C D E))/\(Option.isSome t=true)/\(Option.isSome t=true)/\∃F G H,(∀I,bW y I->Ld ay (Option.map (λJ=>J.add 7) t) I (.slice F G H))/\(bx (i64.wrap (((G:Nat):Int)-(1:Int))) ((D:Nat):Int)/\Option.isSome C=true)/\∃I J L,(∀M,bW y M->Ld aj (ak C (i64.wrap (((G:Nat):Int)-(1:Int))) 1) M (.slice I J L))/\∀M,bW y M->∃N:World->Prop,N (World.drew M)/\(Option.isSome t=true)/\(Option.isSome t=true)/\∃O P Q,(∀R,N R->Ld ay (Option.map (λS=>S.add 7) t) R (.slice O P Q))/\(Option.isSome t=true)/\(Option.isSome t=true)/\∃R S T,(∀U,N U->Ld ay (Option.map (λV=>V.add 7) t) U (.slice R S T))/\bd (i64.wrap (((S:Nat):Int)-(1:Int))) ((Q:Nat):Int)/\(Option.isSome t=true)/\(Option.isSome t=true)/\∃U,Sv ay (Option.map (λV=>V.add 7) t) (.slice O (Int.toNat (i64.wrap (((S:Nat):Int)-(1:Int)))) Q) (World.drew M) U/\true/\∃V,Ld aq (vA j 0) U (vI V)/\∃X:Nat->FP [.one (.int .i64)],(∃Y,X Y (0:Int) U)/\∀Y Z,aL 8 (∀aa,X Y Z aa->ah (decide (Z<V)) (uU je #[.pointer t,.slice I J L,vI Z] aa λac=>∃ad:Nat,ad<Y/\X ad (i64.wrap (Z+(1:Int))) ac) (∃ac:Nat,ac<x/\v ac aa))) ((Option.isSome t=true)/\(Option.isSome t=true)/\∃C D E,Ld aj (Option.map (λF=>F.add 5) t) y (.slice C D E)/\K (.slice C D E) y))):Cf jW #[.agg #[vI a,vI b,.slice c d e,.slice f g i]] w (Ret K):=ru func189 [(6,[]),(4000017,[]),(21,[(42,.one (.int .i64))])] h
end Go.Pk
